import Derived.Test.YtimlfmklbfgliaaDoorProg
import Derived.Test.YtimlfmklbfgliaaDoorGn
set_option linter.unusedVariables false
namespace Go.Proofs.YtimlfmklbfgliaaDoor
open Go.RowKit Mq
attribute [local go_sem high] max2_ii min2_ii
attribute [local go_sem ↓] Go.wp_at_zero Go.wp_at_succ

theorem maskOf_mid {b : Int} (h : ¬ b ≤ 0) : 4294967295 * 2 ^ (32 - min b 32).toNat % 4294967296 = ((maskOf b : Nat) : Int) := by
  unfold maskOf; rw [if_neg h]; simp
set_option maxRecDepth 100000 in
theorem mask_any (b : Int) (hb : is64 b) (w : World) : Calls Tryd.prog 32 #[.int .i64 b] w fun e w' => e = .returned (.int .u32 (maskOf b : Nat)) ∧ w' = w := by
  unfold is64 at hb
  by_cases h : b ≤ 0
  · have HP : Hid (maskOf b = 0) := Lib.hid (by unfold maskOf; rw [if_pos h])
    go_enter Tryd.func32, Tryd.ntmps32
    go_wp2_with fail
    go_ret
    exact ⟨rt_int (by rw [HP.out]; rfl), rfl⟩
  · have HP := Lib.hid (maskOf_mid h)
    go_enter Tryd.func32, Tryd.ntmps32
    go_wp2_with fail
    go_ret
    exact ⟨rt_int HP.out, rfl⟩

theorem eqn_dec (n m : Nat) : (((n : Nat) : Int) == ((m : Nat) : Int)) = decide (n = m) := by rw [Bool.eq_iff_iff]; simp; omega
theorem eq0_dec (n : Nat) : (((n : Nat) : Int) == 0) = decide (n = 0) := by rw [Bool.eq_iff_iff]; simp
set_option maxRecDepth 100000 in
theorem may_any (p : Pfx) (hp : p.Ok) (w : World) : Calls Tryd.prog 31 #[.agg #[.int .u32 p.addr, .int .i64 p.bits]] w fun e w' => e = .returned (.bool (mayB p)) ∧ Below w.heap.size w w' := by
  have hb := hp.bits
  have ha := hp.addr
  have hm := maskOf_lt p.bits
  have HB := Lib.hid hb
  unfold is64 at hb
  by_cases h : 0 ≤ p.bits
  · by_cases h2 : p.bits ≤ 32
    · have HA := Lib.hid (u32_andNot_nat p.addr (maskOf p.bits) ha hm)
      have HP : Hid (mayB p = decide (p.addr &&& (4294967295 - maskOf p.bits) = 0)) := Lib.hid (by simp [mayB, h, h2])
      go_enter Tryd.func31, Tryd.ntmps31
      go_wp2_with fail
      go_quiet ((go_at_call 32; exact Calls.quiet_of_same (mask_any _ HB.out _)))
      go_wp2_with fail
      go_ret
      exact ⟨rt_bool (by rw [HA.out, eq0_dec, HP.out]), gb_drewN (gb_alloc (Below.refl _ _) _) _⟩
    · have HP : Hid (mayB p = false) := Lib.hid (by simp [mayB, h2])
      have h3 : decide (p.bits ≤ 32) = false := by simpa using h2
      go_enter Tryd.func31, Tryd.ntmps31
      go_wp2_with fail
      go_quiet (fail)
      go_wp2_with fail
      go_ret
      exact ⟨rt_bool (by rw [HP.out]), gb_drewN (gb_alloc (Below.refl _ _) _) _⟩
  · have HP : Hid (mayB p = false) := Lib.hid (by simp [mayB, h])
    have h3 : decide (0 ≤ p.bits) = false := by simpa using h
    go_enter Tryd.func31, Tryd.ntmps31
    go_wp2_with fail
    go_quiet (fail)
    go_wp2_with fail
    go_ret
    exact ⟨rt_bool (by rw [HP.out]), gb_drewN (gb_alloc (Below.refl _ _) _) _⟩

set_option maxRecDepth 100000 in
theorem covers_any (p o : Pfx) (hp : p.Ok) (ho : o.Ok) (w : World) : Calls Tryd.prog 25 #[.agg #[.int .u32 p.addr, .int .i64 p.bits], .agg #[.int .u32 o.addr, .int .i64 o.bits]] w fun e w' => e = .returned (.bool (coversB p o)) ∧ Below w.heap.size w w' := by
  have hb := hp.bits
  have ha := hp.addr
  have hob := ho.bits
  have hoa := ho.addr
  have hm := maskOf_lt p.bits
  have HB := Lib.hid hb
  unfold is64 at hb hob
  cases hmp : mayB p with
  | false =>
    have HP : Hid (coversB p o = false) := Lib.hid (by simp [coversB, hmp])
    have c1 := fun w => may_any p hp w
    rw [hmp] at c1
    have C1 := Lib.hid c1
    clear c1 hmp
    go_enter Tryd.func25, Tryd.ntmps25
    go_wp2_with fail
    have b0 := gb_old _ (.cells #[.int .u32 o.addr, .int .i64 o.bits] 64) (gb_new w (.cells #[.int .u32 p.addr, .int .i64 p.bits] 64))
    have b1 := gb_new (w.alloc (.cells #[.int .u32 p.addr, .int .i64 p.bits] 64)) (.cells #[.int .u32 o.addr, .int .i64 o.bits] 64)
    simp only [World.size_alloc] at b1
    have B := Lib.hid (gb_alloc (gb_alloc (Below.refl w.heap.size w) (.cells #[.int .u32 p.addr, .int .i64 p.bits] 64)) (.cells #[.int .u32 o.addr, .int .i64 o.bits] 64))
    generalize (w.alloc (.cells #[.int .u32 p.addr, .int .i64 p.bits] 64)).alloc (.cells #[.int .u32 o.addr, .int .i64 o.bits] 64) = W at *
    obtain ⟨p0, p1⟩ := in_cells2 b0
    obtain ⟨o0, o1⟩ := in_cells2 b1
    refine wp_region_in (Below W.heap.size W) (by kernel_rfl) (by kernel_rfl) (Below.refl _ _).drew ?_
    repeat (go_big_quiet_step ((go_at_call 31; refine (C1.out _).mono ?_; rintro e w' ⟨rfl, hb⟩; exact ⟨rfl, in_after _ hb⟩)))
    refine wpQuiet_nil ?_
    rintro _ ⟨⟨w2, hb2⟩, rfl⟩
    have B2 := Lib.hid (gb_trans B.out hb2)
    clear p0 p1 o0 o1 b0 b1 hb2
    go_wp2_with fail
    go_ret
    exact ⟨rt_bool (by rw [HP.out]), B2.out⟩
  | true =>
    have c1 := fun w => may_any p hp w
    rw [hmp] at c1
    have C1 := Lib.hid c1
    clear c1
    cases hmo : mayB o with
    | false =>
      have HP : Hid (coversB p o = false) := Lib.hid (by simp [coversB, hmo])
      have c2 := fun w => may_any o ho w
      rw [hmo] at c2
      have C2 := Lib.hid c2
      clear c2 hmp hmo
      go_enter Tryd.func25, Tryd.ntmps25
      go_wp2_with fail
      have b0 := gb_old _ (.cells #[.int .u32 o.addr, .int .i64 o.bits] 64) (gb_new w (.cells #[.int .u32 p.addr, .int .i64 p.bits] 64))
      have b1 := gb_new (w.alloc (.cells #[.int .u32 p.addr, .int .i64 p.bits] 64)) (.cells #[.int .u32 o.addr, .int .i64 o.bits] 64)
      simp only [World.size_alloc] at b1
      have B := Lib.hid (gb_alloc (gb_alloc (Below.refl w.heap.size w) (.cells #[.int .u32 p.addr, .int .i64 p.bits] 64)) (.cells #[.int .u32 o.addr, .int .i64 o.bits] 64))
      generalize (w.alloc (.cells #[.int .u32 p.addr, .int .i64 p.bits] 64)).alloc (.cells #[.int .u32 o.addr, .int .i64 o.bits] 64) = W at *
      obtain ⟨p0, p1⟩ := in_cells2 b0
      obtain ⟨o0, o1⟩ := in_cells2 b1
      refine wp_region_in (Below W.heap.size W) (by kernel_rfl) (by kernel_rfl) (Below.refl _ _).drew ?_
      repeat (go_big_quiet_step (first | (go_at_call_of 31 (Value.agg #[Value.int IntKind.u32 (p.addr : Int), Value.int IntKind.i64 p.bits]); refine (C1.out _).mono ?_; rintro e w' ⟨rfl, hb⟩; exact ⟨rfl, in_after _ hb⟩) | (go_at_call_of 31 (Value.agg #[Value.int IntKind.u32 (o.addr : Int), Value.int IntKind.i64 o.bits]); refine (C2.out _).mono ?_; rintro e w' ⟨rfl, hb⟩; exact ⟨rfl, in_after _ hb⟩)))
      refine wpQuiet_nil ?_
      rintro _ ⟨⟨w2, hb2⟩, rfl⟩
      have B2 := Lib.hid (gb_trans B.out hb2)
      clear p0 p1 o0 o1 b0 b1 hb2
      go_wp2_with fail
      go_ret
      exact ⟨rt_bool (by rw [HP.out]), B2.out⟩
    | true =>
      have c2 := fun w => may_any o ho w
      rw [hmo] at c2
      have C2 := Lib.hid c2
      clear c2
      by_cases hle : p.bits ≤ o.bits
      · have HA := Lib.hid (u32_and_nat o.addr (maskOf p.bits) hoa hm)
        have HP : Hid (coversB p o = decide (o.addr &&& maskOf p.bits = p.addr)) := Lib.hid (by simp [coversB, hmp, hmo, hle])
        clear hmp hmo
        go_enter Tryd.func25, Tryd.ntmps25
        go_wp2_with fail
        have b0 := gb_old _ (.cells #[.int .u32 o.addr, .int .i64 o.bits] 64) (gb_new w (.cells #[.int .u32 p.addr, .int .i64 p.bits] 64))
        have b1 := gb_new (w.alloc (.cells #[.int .u32 p.addr, .int .i64 p.bits] 64)) (.cells #[.int .u32 o.addr, .int .i64 o.bits] 64)
        simp only [World.size_alloc] at b1
        have B := Lib.hid (gb_alloc (gb_alloc (Below.refl w.heap.size w) (.cells #[.int .u32 p.addr, .int .i64 p.bits] 64)) (.cells #[.int .u32 o.addr, .int .i64 o.bits] 64))
        generalize (w.alloc (.cells #[.int .u32 p.addr, .int .i64 p.bits] 64)).alloc (.cells #[.int .u32 o.addr, .int .i64 o.bits] 64) = W at *
        obtain ⟨p0, p1⟩ := in_cells2 b0
        obtain ⟨o0, o1⟩ := in_cells2 b1
        refine wp_region_in (Below W.heap.size W) (by kernel_rfl) (by kernel_rfl) (Below.refl _ _).drew ?_
        repeat (go_big_quiet_step (first | (go_at_call_of 31 (Value.agg #[Value.int IntKind.u32 (p.addr : Int), Value.int IntKind.i64 p.bits]); refine (C1.out _).mono ?_; rintro e w' ⟨rfl, hb⟩; exact ⟨rfl, in_after _ hb⟩) | (go_at_call_of 31 (Value.agg #[Value.int IntKind.u32 (o.addr : Int), Value.int IntKind.i64 o.bits]); refine (C2.out _).mono ?_; rintro e w' ⟨rfl, hb⟩; exact ⟨rfl, in_after _ hb⟩) | (go_at_call 32; refine (mask_any _ HB.out _).mono ?_; rintro e w' ⟨rfl, rfl⟩; exact ⟨rfl, ⟨_, rfl⟩⟩)))
        refine wpQuiet_nil ?_
        rintro _ ⟨⟨w2, hb2⟩, rfl⟩
        have B2 := Lib.hid (gb_trans B.out hb2)
        clear p0 p1 o0 o1 b0 b1 hb2
        go_wp2_with fail
        go_ret
        exact ⟨rt_bool (by rw [HA.out, HP.out, eqn_dec]), B2.out⟩
      · have HP : Hid (coversB p o = false) := Lib.hid (by simp [coversB, hle])
        have hle' : decide (p.bits ≤ o.bits) = false := by simpa using hle
        clear hmp hmo
        go_enter Tryd.func25, Tryd.ntmps25
        go_wp2_with fail
        have b0 := gb_old _ (.cells #[.int .u32 o.addr, .int .i64 o.bits] 64) (gb_new w (.cells #[.int .u32 p.addr, .int .i64 p.bits] 64))
        have b1 := gb_new (w.alloc (.cells #[.int .u32 p.addr, .int .i64 p.bits] 64)) (.cells #[.int .u32 o.addr, .int .i64 o.bits] 64)
        simp only [World.size_alloc] at b1
        have B := Lib.hid (gb_alloc (gb_alloc (Below.refl w.heap.size w) (.cells #[.int .u32 p.addr, .int .i64 p.bits] 64)) (.cells #[.int .u32 o.addr, .int .i64 o.bits] 64))
        generalize (w.alloc (.cells #[.int .u32 p.addr, .int .i64 p.bits] 64)).alloc (.cells #[.int .u32 o.addr, .int .i64 o.bits] 64) = W at *
        obtain ⟨p0, p1⟩ := in_cells2 b0
        obtain ⟨o0, o1⟩ := in_cells2 b1
        refine wp_region_in (Below W.heap.size W) (by kernel_rfl) (by kernel_rfl) (Below.refl _ _).drew ?_
        repeat (go_big_quiet_step (first | (go_at_call_of 31 (Value.agg #[Value.int IntKind.u32 (p.addr : Int), Value.int IntKind.i64 p.bits]); refine (C1.out _).mono ?_; rintro e w' ⟨rfl, hb⟩; exact ⟨rfl, in_after _ hb⟩) | (go_at_call_of 31 (Value.agg #[Value.int IntKind.u32 (o.addr : Int), Value.int IntKind.i64 o.bits]); refine (C2.out _).mono ?_; rintro e w' ⟨rfl, hb⟩; exact ⟨rfl, in_after _ hb⟩)))
        refine wpQuiet_nil ?_
        rintro _ ⟨⟨w2, hb2⟩, rfl⟩
        have B2 := Lib.hid (gb_trans B.out hb2)
        clear p0 p1 o0 o1 b0 b1 hb2
        go_wp2_with fail
        go_ret
        exact ⟨rt_bool (by rw [HP.out]), B2.out⟩
end Go.Proofs.YtimlfmklbfgliaaDoor
