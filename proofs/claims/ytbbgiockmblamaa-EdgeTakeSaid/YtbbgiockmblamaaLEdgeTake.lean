import Derived.Test.YtbbgiockmblamaaT12
import Derived.Test.YtbbgiockmblamaaEs
set_option linter.unusedVariables false
namespace Go.Proofs.Ytbbgiockmblamaa
open Go.RowKit Mq

attribute [local go_sem high] eq_att
set_option maxRecDepth 100000 in
set_option maxHeartbeats 4000000 in
theorem walk_EdgeTake (v : WiV) (e : EdV) (a : Att) (t : Nat) (w : World) (hv : WiOk w v) (he : EdOk w e) (ha : a.Ok) (ht : t < 256) :
    Calls Try.prog 11 #[.agg (wic v).toArray, .agg (edc e).toArray, .agg (attc a).toArray, .int .u8 t] w fun e w' => e = .returned (.bool true) ∧ Below w.heap.size w w' := by
  have V := Lib.hid hv; have E := Lib.hid he
  clear hv he
  unfold wic edc attc slv
  go_enter Try.func11, Try.ntmps11
  go_wp2_with fail
  have b4 := gb_old _ (.cells #[.bool a.ok, .int .i64 a.pref, .int .i64 a.cost, .int .u8 a.tags] 24) (gb_old _ (.cells #[.int .i64 e.from_, .int .i64 e.cost, .slice e.ex.A e.ex.l.length e.ex.cap, .slice e.im.A e.im.l.length e.im.cap] 46) (gb_new w (.cells #[.int .u8 v.from_, .int .u8 v.cost, .slice v.ex.A v.ex.l.length v.ex.cap, .slice v.im.A v.im.l.length v.im.cap] 59)))
  have b5 := gb_old _ (.cells #[.bool a.ok, .int .i64 a.pref, .int .i64 a.cost, .int .u8 a.tags] 24) (gb_new (w.alloc (.cells #[.int .u8 v.from_, .int .u8 v.cost, .slice v.ex.A v.ex.l.length v.ex.cap, .slice v.im.A v.im.l.length v.im.cap] 59)) (.cells #[.int .i64 e.from_, .int .i64 e.cost, .slice e.ex.A e.ex.l.length e.ex.cap, .slice e.im.A e.im.l.length e.im.cap] 46))
  have b6 := gb_new ((w.alloc (.cells #[.int .u8 v.from_, .int .u8 v.cost, .slice v.ex.A v.ex.l.length v.ex.cap, .slice v.im.A v.im.l.length v.im.cap] 59)).alloc (.cells #[.int .i64 e.from_, .int .i64 e.cost, .slice e.ex.A e.ex.l.length e.ex.cap, .slice e.im.A e.im.l.length e.im.cap] 46)) (.cells #[.bool a.ok, .int .i64 a.pref, .int .i64 a.cost, .int .u8 a.tags] 24)
  have hB := gb_alloc (gb_alloc (gb_alloc (Below.refl w.heap.size w) (.cells #[.int .u8 v.from_, .int .u8 v.cost, .slice v.ex.A v.ex.l.length v.ex.cap, .slice v.im.A v.im.l.length v.im.cap] 59)) (.cells #[.int .i64 e.from_, .int .i64 e.cost, .slice e.ex.A e.ex.l.length e.ex.cap, .slice e.im.A e.im.l.length e.im.cap] 46)) (.cells #[.bool a.ok, .int .i64 a.pref, .int .i64 a.cost, .int .u8 a.tags] 24)
  simp only [World.size_alloc] at b5 b6
  generalize ((w.alloc (.cells #[.int .u8 v.from_, .int .u8 v.cost, .slice v.ex.A v.ex.l.length v.ex.cap, .slice v.im.A v.im.l.length v.im.cap] 59)).alloc (.cells #[.int .i64 e.from_, .int .i64 e.cost, .slice e.ex.A e.ex.l.length e.ex.cap, .slice e.im.A e.im.l.length e.im.cap] 46)).alloc (.cells #[.bool a.ok, .int .i64 a.pref, .int .i64 a.cost, .int .u8 a.tags] 24) = W0 at *
  refine (awake12 W0).mono ?_
  rintro en w1 ⟨rfl, hb⟩
  have C4 := Lib.hid (gb_old _ (.cells #[.bool true, .int .i64 7, .int .i64 9, .int .u8 t] 24) (gb_blk hb b4 (gb_lt b4)))
  have C5 := Lib.hid (gb_old _ (.cells #[.bool true, .int .i64 7, .int .i64 9, .int .u8 t] 24) (gb_blk hb b5 (gb_lt b5)))
  have C6 := Lib.hid (gb_old _ (.cells #[.bool true, .int .i64 7, .int .i64 9, .int .u8 t] 24) (gb_blk hb b6 (gb_lt b6)))
  have C9 := Lib.hid (gb_new w1 (.cells #[.bool true, .int .i64 7, .int .i64 9, .int .u8 t] 24))
  have B1 := Lib.hid (gb_alloc (gb_trans hB hb) (.cells #[.bool true, .int .i64 7, .int .i64 9, .int .u8 t] 24))
  clear b4 b5 b6 hB hb
  go_upto_region 4 with fail
  generalize w1.alloc (.cells #[.bool true, .int .i64 7, .int .i64 9, .int .u8 t] 24) = w2 at *
  obtain ⟨x0, x1, x2, x3⟩ := gb_cells4 C4.out
  go_wp2_with fail
  refine (wire_any v w2 (V.out.below B1.out)).mono ?_
  rintro en w3 ⟨f, rfl, hf, -, -, -, -, hb⟩
  unfold edv
  have D5 := gb_old _ (.cells #[.int .i64 f.from_, .int .i64 f.cost, .slice f.ex.A f.ex.l.length f.ex.cap, .slice f.im.A f.im.l.length f.im.cap] 46) (gb_blk hb C5.out (gb_lt C5.out))
  have D6 := gb_old _ (.cells #[.int .i64 f.from_, .int .i64 f.cost, .slice f.ex.A f.ex.l.length f.ex.cap, .slice f.im.A f.im.l.length f.im.cap] 46) (gb_blk hb C6.out (gb_lt C6.out))
  have D9 := gb_old _ (.cells #[.int .i64 f.from_, .int .i64 f.cost, .slice f.ex.A f.ex.l.length f.ex.cap, .slice f.im.A f.im.l.length f.im.cap] 46) (gb_blk hb C9.out (gb_lt C9.out))
  have D10 := gb_new w3 (.cells #[.int .i64 f.from_, .int .i64 f.cost, .slice f.ex.A f.ex.l.length f.ex.cap, .slice f.im.A f.im.l.length f.im.cap] 46)
  have BW := Lib.hid (gb_alloc (gb_trans B1.out hb) (.cells #[.int .i64 f.from_, .int .i64 f.cost, .slice f.ex.A f.ex.l.length f.ex.cap, .slice f.im.A f.im.l.length f.im.cap] 46))
  have HEf := Lib.hid (hf.below (gb_alloc (Below.refl w3.heap.size w3) (.cells #[.int .i64 f.from_, .int .i64 f.cost, .slice f.ex.A f.ex.l.length f.ex.cap, .slice f.im.A f.im.l.length f.im.cap] 46)))
  clear hf hb x0 x1 x2 x3 C4 C5 C6 C9
  go_upto_region 5 with fail
  generalize w3.alloc (.cells #[.int .i64 f.from_, .int .i64 f.cost, .slice f.ex.A f.ex.l.length f.ex.cap, .slice f.im.A f.im.l.length f.im.cap] 46) = W at *
  have HEe := Lib.hid (E.out.below BW.out)
  have BO : Hid ((⟨true, 7, 9, t⟩ : Att).Ok) := Lib.hid (att_ok (by omega) (by omega) (by omega) (by omega) ht)
  obtain ⟨p5, q5, r5, s5⟩ := in_cells4 D5
  obtain ⟨p6, q6, r6, s6⟩ := in_cells4 D6
  obtain ⟨p9, q9, r9, s9⟩ := in_cells4 D9
  obtain ⟨p10, q10, r10, s10⟩ := in_cells4 D10
  clear D5 D6 D9 D10
  obtain ⟨r1, hr1⟩ : ∃ r, r = edTake f a := ⟨_, rfl⟩
  obtain ⟨r2, hr2⟩ : ∃ r, r = edTake f ⟨true, 7, 9, t⟩ := ⟨_, rfl⟩
  obtain ⟨r3, hr3⟩ : ∃ r, r = edTake e a := ⟨_, rfl⟩
  obtain ⟨r4, hr4⟩ : ∃ r, r = edTake e ⟨true, 7, 9, t⟩ := ⟨_, rfl⟩
  have k1 : ∀ x : InW (Below W.heap.size W), Calls Try.prog 25 #[.agg #[.int .i64 f.from_, .int .i64 f.cost, .slice f.ex.A f.ex.l.length f.ex.cap, .slice f.im.A f.im.l.length f.im.cap], .agg #[.bool a.ok, .int .i64 a.pref, .int .i64 a.cost, .int .u8 a.tags]] x.val fun e w' => e = .returned (.agg #[.bool r1.ok, .int .i64 r1.pref, .int .i64 r1.cost, .int .u8 r1.tags]) ∧ ∃ y : InW (Below W.heap.size W), w' = y.val :=
    calls_in fun w' hb => by have := take_any f a ha w' (HEf.out.below hb); rw [← hr1] at this; exact this
  have k1H := Lib.hid k1
  clear k1
  have k2 : ∀ x : InW (Below W.heap.size W), Calls Try.prog 29 #[.agg #[.int .i64 f.from_, .int .i64 f.cost, .slice f.ex.A f.ex.l.length f.ex.cap, .slice f.im.A f.im.l.length f.im.cap], .agg #[.bool a.ok, .int .i64 a.pref, .int .i64 a.cost, .int .u8 a.tags]] x.val fun e w' => e = .returned (.agg #[.bool r1.ok, .int .i64 r1.pref, .int .i64 r1.cost, .int .u8 r1.tags]) ∧ ∃ y : InW (Below W.heap.size W), w' = y.val :=
    calls_in fun w' hb => by have := take12_any f a ha w' (HEf.out.below hb); rw [← hr1] at this; exact this
  have k2H := Lib.hid k2
  clear k2
  have k3 : ∀ x : InW (Below W.heap.size W), Calls Try.prog 25 #[.agg #[.int .i64 f.from_, .int .i64 f.cost, .slice f.ex.A f.ex.l.length f.ex.cap, .slice f.im.A f.im.l.length f.im.cap], .agg #[.bool true, .int .i64 7, .int .i64 9, .int .u8 t]] x.val fun e w' => e = .returned (.agg #[.bool r2.ok, .int .i64 r2.pref, .int .i64 r2.cost, .int .u8 r2.tags]) ∧ ∃ y : InW (Below W.heap.size W), w' = y.val :=
    calls_in fun w' hb => by have := take_any f ⟨true, 7, 9, t⟩ BO.out w' (HEf.out.below hb); rw [← hr2] at this; exact this
  have k3H := Lib.hid k3
  clear k3
  have k4 : ∀ x : InW (Below W.heap.size W), Calls Try.prog 29 #[.agg #[.int .i64 f.from_, .int .i64 f.cost, .slice f.ex.A f.ex.l.length f.ex.cap, .slice f.im.A f.im.l.length f.im.cap], .agg #[.bool true, .int .i64 7, .int .i64 9, .int .u8 t]] x.val fun e w' => e = .returned (.agg #[.bool r2.ok, .int .i64 r2.pref, .int .i64 r2.cost, .int .u8 r2.tags]) ∧ ∃ y : InW (Below W.heap.size W), w' = y.val :=
    calls_in fun w' hb => by have := take12_any f ⟨true, 7, 9, t⟩ BO.out w' (HEf.out.below hb); rw [← hr2] at this; exact this
  have k4H := Lib.hid k4
  clear k4
  have k5 : ∀ x : InW (Below W.heap.size W), Calls Try.prog 25 #[.agg #[.int .i64 e.from_, .int .i64 e.cost, .slice e.ex.A e.ex.l.length e.ex.cap, .slice e.im.A e.im.l.length e.im.cap], .agg #[.bool a.ok, .int .i64 a.pref, .int .i64 a.cost, .int .u8 a.tags]] x.val fun e w' => e = .returned (.agg #[.bool r3.ok, .int .i64 r3.pref, .int .i64 r3.cost, .int .u8 r3.tags]) ∧ ∃ y : InW (Below W.heap.size W), w' = y.val :=
    calls_in fun w' hb => by have := take_any e a ha w' (HEe.out.below hb); rw [← hr3] at this; exact this
  have k5H := Lib.hid k5
  clear k5
  have k6 : ∀ x : InW (Below W.heap.size W), Calls Try.prog 29 #[.agg #[.int .i64 e.from_, .int .i64 e.cost, .slice e.ex.A e.ex.l.length e.ex.cap, .slice e.im.A e.im.l.length e.im.cap], .agg #[.bool a.ok, .int .i64 a.pref, .int .i64 a.cost, .int .u8 a.tags]] x.val fun e w' => e = .returned (.agg #[.bool r3.ok, .int .i64 r3.pref, .int .i64 r3.cost, .int .u8 r3.tags]) ∧ ∃ y : InW (Below W.heap.size W), w' = y.val :=
    calls_in fun w' hb => by have := take12_any e a ha w' (HEe.out.below hb); rw [← hr3] at this; exact this
  have k6H := Lib.hid k6
  clear k6
  have k7 : ∀ x : InW (Below W.heap.size W), Calls Try.prog 25 #[.agg #[.int .i64 e.from_, .int .i64 e.cost, .slice e.ex.A e.ex.l.length e.ex.cap, .slice e.im.A e.im.l.length e.im.cap], .agg #[.bool true, .int .i64 7, .int .i64 9, .int .u8 t]] x.val fun e w' => e = .returned (.agg #[.bool r4.ok, .int .i64 r4.pref, .int .i64 r4.cost, .int .u8 r4.tags]) ∧ ∃ y : InW (Below W.heap.size W), w' = y.val :=
    calls_in fun w' hb => by have := take_any e ⟨true, 7, 9, t⟩ BO.out w' (HEe.out.below hb); rw [← hr4] at this; exact this
  have k7H := Lib.hid k7
  clear k7
  have k8 : ∀ x : InW (Below W.heap.size W), Calls Try.prog 29 #[.agg #[.int .i64 e.from_, .int .i64 e.cost, .slice e.ex.A e.ex.l.length e.ex.cap, .slice e.im.A e.im.l.length e.im.cap], .agg #[.bool true, .int .i64 7, .int .i64 9, .int .u8 t]] x.val fun e w' => e = .returned (.agg #[.bool r4.ok, .int .i64 r4.pref, .int .i64 r4.cost, .int .u8 r4.tags]) ∧ ∃ y : InW (Below W.heap.size W), w' = y.val :=
    calls_in fun w' hb => by have := take12_any e ⟨true, 7, 9, t⟩ BO.out w' (HEe.out.below hb); rw [← hr4] at this; exact this
  have k8H := Lib.hid k8
  clear k8
  clear hr1 hr2 hr3 hr4
  refine wp_region_in (Below W.heap.size W) (by kernel_rfl) (by kernel_rfl) (Below.refl _ _).drew ?_
  repeat (go_big_quiet_step (first | (with_reducible exact k1H.out _) | (with_reducible exact k2H.out _) | (with_reducible exact k3H.out _) | (with_reducible exact k4H.out _) | (with_reducible exact k5H.out _) | (with_reducible exact k6H.out _) | (with_reducible exact k7H.out _) | (with_reducible exact k8H.out _)))
  refine wpQuiet_nil ?_
  rintro _ ⟨⟨w9, hb⟩, rfl⟩
  have BF := Lib.hid (gb_trans BW.out hb)
  clear hb p5 q5 r5 s5 p6 q6 r6 s6 p9 q9 r9 s9 p10 q10 r10 s10
  go_wp2_with fail
  go_ret
  exact ⟨rt_bool (by simp), BF.out⟩
end Go.Proofs.Ytbbgiockmblamaa
