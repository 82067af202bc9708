import Derived.Test.YtbbgiockmblamaaEq
import Derived.Test.YtbbgiockmblamaaD11
import Derived.Test.YtbbgiockmblamaaRdt
set_option linter.unusedVariables false
namespace Go.Proofs.Ytbbgiockmblamaa
open Go.RowKit Mq

attribute [local go_sem high] eq_att
set_option maxRecDepth 100000 in
set_option maxHeartbeats 4000000 in
theorem walk_ClauseDo0 (A1 : Option Addr) (c1 : Nat) (rs : List Rul) (hrs : ∀ r ∈ rs, r.Ok) (n : Nat) (hn : n < 256) (a : Att) (ha : a.Ok) (A2 : Option Addr) (c2 : Nat) (raw : List Cl) (hraw : ∀ c ∈ raw, c.Ok) (o : Pfx) (ho : o.Ok) (w : World)
    (h1 : RlsAt w w.heap.size A1 rs) (l1 : rs.length ≤ 9223372036854775807) (h2 : ClsAt w w.heap.size A2 raw) (l2 : raw.length ≤ 9223372036854775807) :
    Calls Try.prog 3 #[.slice A1 rs.length c1, .int .u8 n, .agg #[.bool a.ok, .int .i64 a.pref, .int .i64 a.cost, .int .u8 a.tags], .slice A2 raw.length c2, .agg #[.int .u32 o.addr, .int .i64 o.bits]] w
      fun e w' => e = .returned (.bool true) ∧ Below w.heap.size w w' := by
  have S1 := Lib.hid h1; have S2 := Lib.hid h2
  have hu : IntKind.u8.signed = false := rfl
  clear h1 h2
  go_enter Try.func3, Try.ntmps3
  go_wp2_with fail
  have b7 := gb_old _ (.cells #[.int .u32 o.addr, .int .i64 o.bits] 28) (gb_new w (.cells #[.bool a.ok, .int .i64 a.pref, .int .i64 a.cost, .int .u8 a.tags] 24))
  have b9 := gb_new (w.alloc (.cells #[.bool a.ok, .int .i64 a.pref, .int .i64 a.cost, .int .u8 a.tags] 24)) (.cells #[.int .u32 o.addr, .int .i64 o.bits] 28)
  have hB := gb_alloc (gb_alloc (Below.refl w.heap.size w) (.cells #[.bool a.ok, .int .i64 a.pref, .int .i64 a.cost, .int .u8 a.tags] 24)) (.cells #[.int .u32 o.addr, .int .i64 o.bits] 28)
  simp only [World.size_alloc] at b9
  generalize (w.alloc (.cells #[.bool a.ok, .int .i64 a.pref, .int .i64 a.cost, .int .u8 a.tags] 24)).alloc (.cells #[.int .u32 o.addr, .int .i64 o.bits] 28) = W0 at *
  refine (awake11 W0).mono ?_
  rintro e w1 ⟨rfl, hb⟩
  have B7 := Lib.hid (gb_blk hb b7 (gb_lt b7)); have B9 := Lib.hid (gb_blk hb b9 (gb_lt b9)); have B1 := Lib.hid (gb_trans hB hb)
  clear b7 b9 hB hb
  go_wp2_with fail
  refine (clauses_any A1 c1 rs hrs w1 ((S1.out.below B1.out).more B1.out.size) l1).mono ?_
  rintro e w2 ⟨Ac, cc, rfl, hown, hb⟩
  have S3 := Lib.hid hown.at_
  have L3 := ruleCls_len rs
  have B2 := Lib.hid (gb_trans B1.out hb)
  have B72 := Lib.hid (gb_blk hb B7.out (gb_lt B7.out)); have B92 := Lib.hid (gb_blk hb B9.out (gb_lt B9.out))
  have HCO := Lib.hid (ruleCls_ok hrs)
  clear hown hb B7 B9
  generalize ruleCls rs = cs at *
  go_wp2_with fail
  refine (make_any n hn w2).mono ?_
  rintro e w3 ⟨rfl, hb⟩
  have HPO := Lib.hid (mkP_ok hn)
  generalize mkP n = t at *
  unfold pfxv
  have S4 := Lib.hid (S3.out.below hb)
  have SZ := Lib.hid hb.size
  have B3 := Lib.hid (gb_trans B2.out hb)
  have B73 := Lib.hid (gb_blk hb B72.out (gb_lt B72.out)); have B93 := Lib.hid (gb_blk hb B92.out (gb_lt B92.out))
  clear hb B72 B92 S3
  go_upto_region 6 with fail
  obtain ⟨m, hm, hm16⟩ : ∃ m : Nat, (n : Int) % 16 = (m : Int) ∧ m < 16 := ⟨n % 16, by omega, by omega⟩
  rw [hm]
  clear hm
  have b12 := gb_old _ (.cells #[.bool true, .int .i64 100, .int .i64 n, .int .u8 m] 24) (gb_new w3 (.cells #[.int .u32 t.addr, .int .i64 t.bits] 28))
  have b13 := gb_new (w3.alloc (.cells #[.int .u32 t.addr, .int .i64 t.bits] 28)) (.cells #[.bool true, .int .i64 100, .int .i64 n, .int .u8 m] 24)
  have b7 := gb_old _ (.cells #[.bool true, .int .i64 100, .int .i64 n, .int .u8 m] 24) (gb_old _ (.cells #[.int .u32 t.addr, .int .i64 t.bits] 28) B73.out)
  have b9 := gb_old _ (.cells #[.bool true, .int .i64 100, .int .i64 n, .int .u8 m] 24) (gb_old _ (.cells #[.int .u32 t.addr, .int .i64 t.bits] 28) B93.out)
  have hB := gb_alloc (gb_alloc (Below.refl w3.heap.size w3) (.cells #[.int .u32 t.addr, .int .i64 t.bits] 28)) (.cells #[.bool true, .int .i64 100, .int .i64 n, .int .u8 m] 24)
  simp only [World.size_alloc] at b13
  generalize (w3.alloc (.cells #[.int .u32 t.addr, .int .i64 t.bits] 28)).alloc (.cells #[.bool true, .int .i64 100, .int .i64 n, .int .u8 m] 24) = W at *
  have BO : Hid ((⟨true, 100, n, m⟩ : Att).Ok) := Lib.hid (att_ok (by omega) (by omega) (by omega) (by omega) (by omega))
  have S5 := Lib.hid (((S4.out.more SZ.out).below hB).more hB.size)
  have S6 := Lib.hid (((S2.out.below B3.out).below (hB.mono B3.out.size)).more (gb_trans B3.out hB).size)
  have BW := Lib.hid (Below.refl W.heap.size W)
  have BE := Lib.hid (gb_trans B3.out hB)
  obtain ⟨p12, q12⟩ := in_cells2 b12
  obtain ⟨p9, q9⟩ := in_cells2 b9
  obtain ⟨x13, y13, z13, u13⟩ := in_cells4 b13
  obtain ⟨x7, y7, z7, u7⟩ := in_cells4 b7
  clear b12 b13 b7 b9 hB
  obtain ⟨r1, hr1⟩ : ∃ r, r = doL cs t ⟨true, 100, n, m⟩ := ⟨_, rfl⟩
  obtain ⟨r2, hr2⟩ : ∃ r, r = doL cs t a := ⟨_, rfl⟩
  obtain ⟨r3, hr3⟩ : ∃ r, r = doL raw o a := ⟨_, rfl⟩
  obtain ⟨r4, hr4⟩ : ∃ r, r = doL raw t ⟨true, 100, n, m⟩ := ⟨_, rfl⟩
  have k1 : ∀ x : InW (Below W.heap.size W), Calls Try.prog 18 #[.slice Ac cs.length cc, .agg #[.int .u32 t.addr, .int .i64 t.bits], .agg #[.bool true, .int .i64 100, .int .i64 n, .int .u8 m]] x.val fun e w' => e = .returned (.agg #[.bool r1.ok, .int .i64 r1.pref, .int .i64 r1.cost, .int .u8 r1.tags]) ∧ ∃ y : InW (Below W.heap.size W), w' = y.val :=
    calls_in fun w' hb => by have := do_any Ac cc cs HCO.out t HPO.out ⟨true, 100, n, m⟩ BO.out w' ((S5.out.below (gb_trans BW.out hb)).more (gb_trans BW.out hb).size) (by omega); rw [← hr1] at this; exact this
  have K1 := Lib.hid k1; clear k1
  have k2 : ∀ x : InW (Below W.heap.size W), Calls Try.prog 19 #[.slice Ac cs.length cc, .agg #[.int .u32 t.addr, .int .i64 t.bits], .agg #[.bool true, .int .i64 100, .int .i64 n, .int .u8 m]] x.val fun e w' => e = .returned (.agg #[.bool r1.ok, .int .i64 r1.pref, .int .i64 r1.cost, .int .u8 r1.tags]) ∧ ∃ y : InW (Below W.heap.size W), w' = y.val :=
    calls_in fun w' hb => by have := do11_any Ac cc cs HCO.out t HPO.out ⟨true, 100, n, m⟩ BO.out w' ((S5.out.below (gb_trans BW.out hb)).more (gb_trans BW.out hb).size) (by omega); rw [← hr1] at this; exact this
  have K2 := Lib.hid k2; clear k2
  have k3 : ∀ x : InW (Below W.heap.size W), Calls Try.prog 18 #[.slice Ac cs.length cc, .agg #[.int .u32 t.addr, .int .i64 t.bits], .agg #[.bool a.ok, .int .i64 a.pref, .int .i64 a.cost, .int .u8 a.tags]] x.val fun e w' => e = .returned (.agg #[.bool r2.ok, .int .i64 r2.pref, .int .i64 r2.cost, .int .u8 r2.tags]) ∧ ∃ y : InW (Below W.heap.size W), w' = y.val :=
    calls_in fun w' hb => by have := do_any Ac cc cs HCO.out t HPO.out a ha w' ((S5.out.below (gb_trans BW.out hb)).more (gb_trans BW.out hb).size) (by omega); rw [← hr2] at this; exact this
  have K3 := Lib.hid k3; clear k3
  have k4 : ∀ x : InW (Below W.heap.size W), Calls Try.prog 19 #[.slice Ac cs.length cc, .agg #[.int .u32 t.addr, .int .i64 t.bits], .agg #[.bool a.ok, .int .i64 a.pref, .int .i64 a.cost, .int .u8 a.tags]] x.val fun e w' => e = .returned (.agg #[.bool r2.ok, .int .i64 r2.pref, .int .i64 r2.cost, .int .u8 r2.tags]) ∧ ∃ y : InW (Below W.heap.size W), w' = y.val :=
    calls_in fun w' hb => by have := do11_any Ac cc cs HCO.out t HPO.out a ha w' ((S5.out.below (gb_trans BW.out hb)).more (gb_trans BW.out hb).size) (by omega); rw [← hr2] at this; exact this
  have K4 := Lib.hid k4; clear k4
  have k5 : ∀ x : InW (Below W.heap.size W), Calls Try.prog 18 #[.slice A2 raw.length c2, .agg #[.int .u32 o.addr, .int .i64 o.bits], .agg #[.bool a.ok, .int .i64 a.pref, .int .i64 a.cost, .int .u8 a.tags]] x.val fun e w' => e = .returned (.agg #[.bool r3.ok, .int .i64 r3.pref, .int .i64 r3.cost, .int .u8 r3.tags]) ∧ ∃ y : InW (Below W.heap.size W), w' = y.val :=
    calls_in fun w' hb => by have := do_any A2 c2 raw hraw o ho a ha w' ((S6.out.below (gb_trans BW.out hb)).more (gb_trans BW.out hb).size) (by omega); rw [← hr3] at this; exact this
  have K5 := Lib.hid k5; clear k5
  have k6 : ∀ x : InW (Below W.heap.size W), Calls Try.prog 19 #[.slice A2 raw.length c2, .agg #[.int .u32 o.addr, .int .i64 o.bits], .agg #[.bool a.ok, .int .i64 a.pref, .int .i64 a.cost, .int .u8 a.tags]] x.val fun e w' => e = .returned (.agg #[.bool r3.ok, .int .i64 r3.pref, .int .i64 r3.cost, .int .u8 r3.tags]) ∧ ∃ y : InW (Below W.heap.size W), w' = y.val :=
    calls_in fun w' hb => by have := do11_any A2 c2 raw hraw o ho a ha w' ((S6.out.below (gb_trans BW.out hb)).more (gb_trans BW.out hb).size) (by omega); rw [← hr3] at this; exact this
  have K6 := Lib.hid k6; clear k6
  have k7 : ∀ x : InW (Below W.heap.size W), Calls Try.prog 18 #[.slice A2 raw.length c2, .agg #[.int .u32 t.addr, .int .i64 t.bits], .agg #[.bool true, .int .i64 100, .int .i64 n, .int .u8 m]] x.val fun e w' => e = .returned (.agg #[.bool r4.ok, .int .i64 r4.pref, .int .i64 r4.cost, .int .u8 r4.tags]) ∧ ∃ y : InW (Below W.heap.size W), w' = y.val :=
    calls_in fun w' hb => by have := do_any A2 c2 raw hraw t HPO.out ⟨true, 100, n, m⟩ BO.out w' ((S6.out.below (gb_trans BW.out hb)).more (gb_trans BW.out hb).size) (by omega); rw [← hr4] at this; exact this
  have K7 := Lib.hid k7; clear k7
  have k8 : ∀ x : InW (Below W.heap.size W), Calls Try.prog 19 #[.slice A2 raw.length c2, .agg #[.int .u32 t.addr, .int .i64 t.bits], .agg #[.bool true, .int .i64 100, .int .i64 n, .int .u8 m]] x.val fun e w' => e = .returned (.agg #[.bool r4.ok, .int .i64 r4.pref, .int .i64 r4.cost, .int .u8 r4.tags]) ∧ ∃ y : InW (Below W.heap.size W), w' = y.val :=
    calls_in fun w' hb => by have := do11_any A2 c2 raw hraw t HPO.out ⟨true, 100, n, m⟩ BO.out w' ((S6.out.below (gb_trans BW.out hb)).more (gb_trans BW.out hb).size) (by omega); rw [← hr4] at this; exact this
  have K8 := Lib.hid k8; clear k8
  clear hr1 hr2 hr3 hr4
  refine wp_region_in (Below W.heap.size W) (by kernel_rfl) (by kernel_rfl) (Below.refl _ _).drew ?_
  repeat (go_big_quiet_step (first | (with_reducible exact K1.out _) | (with_reducible exact K2.out _) | (with_reducible exact K3.out _) | (with_reducible exact K4.out _) | (with_reducible exact K5.out _) | (with_reducible exact K6.out _) | (with_reducible exact K7.out _) | (with_reducible exact K8.out _)))
  refine wpQuiet_nil ?_
  rintro _ ⟨⟨w9, hb⟩, rfl⟩
  have BF := Lib.hid (gb_trans BE.out hb)
  clear hb p12 q12 p9 q9 x13 y13 z13 u13 x7 y7 z7 u7
  go_wp2_with fail
  go_ret
  exact ⟨rt_bool (by simp), BF.out⟩
theorem walk_ClauseDo (s1 : SlV Rul) (n : Nat) (a : Att) (s2 : SlV Cl) (o : Pfx) (w : World) (h1 : SlOk rulc 6 (fun _ r => r.Ok) w s1) (hn : n < 256) (ha : a.Ok) (h2 : SlOk clc 10 (fun _ c => c.Ok) w s2) (ho : o.Ok) :
    Calls Try.prog 3 #[.slice s1.A s1.l.length s1.cap, .int .u8 n, .agg (attc a).toArray, .slice s2.A s2.l.length s2.cap, .agg (pfxc o).toArray] w fun e w' => e = .returned (.bool true) ∧ Below w.heap.size w w' :=
  walk_ClauseDo0 s1.A s1.cap s1.l h1.ok n hn a ha s2.A s2.cap s2.l h2.ok o ho w h1.at_ h1.len_le h2.at_ h2.len_le
end Go.Proofs.Ytbbgiockmblamaa
