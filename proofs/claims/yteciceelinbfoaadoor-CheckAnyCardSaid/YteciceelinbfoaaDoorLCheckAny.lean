import Derived.Test.YteciceelinbfoaaDoorAw9
import Derived.Test.YteciceelinbfoaaDoorRdc
set_option linter.unusedVariables false
namespace Go.Proofs.YteciceelinbfoaaDoor
open Go.RowKit Mq

set_option maxRecDepth 100000 in
set_option maxHeartbeats 4000000 in
theorem walk_CheckAny (c : CfV) (w : World) (hc : CfOk w c) (hG : ErrG w) :
    Calls Tryd.prog 5 #[.agg (cfc c).toArray] w fun e w' => e = .returned (.bool true) ∧ Below w.heap.size w w' := by
  unfold cfc slv
  have HC := Lib.hid hc
  have HG := Lib.hid hG
  clear hc hG
  cases hq : cfgBad c with
  | none =>
    have CC : Hid (∀ w, CfOk w c → Calls Tryd.prog 9 #[.agg #[.slice c.maps.A c.maps.l.length c.maps.cap, .slice c.rts.A c.rts.l.length c.rts.cap]] w fun e w' => e = .returned .nilIface ∧ Below w.heap.size w w') := Lib.hid (fun w h => (config_any c w h).mono fun e w' h => ⟨by rw [h.1, hq]; rfl, h.2⟩)
    have CW : Hid (∀ w, CfOk w c → Calls Tryd.prog 12 #[.agg #[.slice c.maps.A c.maps.l.length c.maps.cap, .slice c.rts.A c.rts.l.length c.rts.cap]] w fun e w' => e = .returned (.tuple #[.int .i64 0, .int .i64 (-1)]) ∧ Below w.heap.size w w') := Lib.hid (fun w h => (wrong_any c w h).mono fun e w' h => ⟨by rw [h.1]; unfold wrongV; rw [hq]; rfl, h.2⟩)
    clear hq
    go_enter Tryd.func5, Tryd.ntmps5
    go_wp2_with fail
    have hb0 := gb_alloc (Below.refl w.heap.size w) (.cells #[.slice c.maps.A c.maps.l.length c.maps.cap, .slice c.rts.A c.rts.l.length c.rts.cap] 33)
    have t0 := gb_new w (.cells #[.slice c.maps.A c.maps.l.length c.maps.cap, .slice c.rts.A c.rts.l.length c.rts.cap] 33)
    refine (awake09 _ (HG.out.below hb0)).mono ?_
    rintro en w1 ⟨rfl, hb⟩
    have T0 := Lib.hid (gb_blk hb t0 (gb_lt t0))
    have B1 := Lib.hid (gb_trans hb0 hb)
    clear hb0 hb t0
    obtain ⟨x0, x1⟩ := gb_cells2 T0.out
    go_wp2_with fail
    refine (CC.out _ (HC.out.below B1.out)).mono ?_
    rintro en w2 ⟨rfl, hb⟩
    obtain ⟨x0, x1⟩ := gb_cells2 (gb_blk hb T0.out (gb_lt T0.out))
    have B2 := Lib.hid (gb_trans B1.out hb)
    clear hb
    go_wp2_with fail
    refine (CW.out _ (HC.out.below B2.out)).mono ?_
    rintro en w3 ⟨rfl, hb⟩
    have B3 := Lib.hid (gb_trans B2.out hb)
    clear hb
    go_wp2_with fail
    refine (number_nil _).mono ?_
    rintro en w4 ⟨rfl, hb⟩
    have B4 := Lib.hid (gb_trans B3.out hb)
    clear hb
    go_wp2_with fail
    go_ret
    exact ⟨rt_bool (by simp), B4.out⟩
  | some q =>
    obtain ⟨n, p⟩ := q
    have hnum := cfgBad_num hq
    simp only at hnum
    have hn0 : (n == 0) = false := by simp; omega
    have CC : Hid (∀ w, CfOk w c → Calls Tryd.prog 9 #[.agg #[.slice c.maps.A c.maps.l.length c.maps.cap, .slice c.rts.A c.rts.l.length c.rts.cap]] w fun e w' => e = .returned (.iface 82 (.agg #[.int .i64 n, .int .i64 p])) ∧ Below w.heap.size w w') := Lib.hid (fun w h => (config_any c w h).mono fun e w' h => ⟨by rw [h.1, hq]; rfl, h.2⟩)
    have CW : Hid (∀ w, CfOk w c → Calls Tryd.prog 12 #[.agg #[.slice c.maps.A c.maps.l.length c.maps.cap, .slice c.rts.A c.rts.l.length c.rts.cap]] w fun e w' => e = .returned (.tuple #[.int .i64 n, .int .i64 p]) ∧ Below w.heap.size w w') := Lib.hid (fun w h => (wrong_any c w h).mono fun e w' h => ⟨by rw [h.1]; unfold wrongV; rw [hq]; rfl, h.2⟩)
    clear hq hnum
    go_enter Tryd.func5, Tryd.ntmps5
    go_wp2_with fail
    have hb0 := gb_alloc (Below.refl w.heap.size w) (.cells #[.slice c.maps.A c.maps.l.length c.maps.cap, .slice c.rts.A c.rts.l.length c.rts.cap] 33)
    have t0 := gb_new w (.cells #[.slice c.maps.A c.maps.l.length c.maps.cap, .slice c.rts.A c.rts.l.length c.rts.cap] 33)
    refine (awake09 _ (HG.out.below hb0)).mono ?_
    rintro en w1 ⟨rfl, hb⟩
    have T0 := Lib.hid (gb_blk hb t0 (gb_lt t0))
    have B1 := Lib.hid (gb_trans hb0 hb)
    clear hb0 hb t0
    obtain ⟨x0, x1⟩ := gb_cells2 T0.out
    go_wp2_with fail
    refine (CC.out _ (HC.out.below B1.out)).mono ?_
    rintro en w2 ⟨rfl, hb⟩
    obtain ⟨x0, x1⟩ := gb_cells2 (gb_blk hb T0.out (gb_lt T0.out))
    have B2 := Lib.hid (gb_trans B1.out hb)
    clear hb
    go_wp2_with fail
    refine (CW.out _ (HC.out.below B2.out)).mono ?_
    rintro en w3 ⟨rfl, hb⟩
    have B3 := Lib.hid (gb_trans B2.out hb)
    clear hb
    go_wp2_with fail
    refine (number_fault n p _ (HG.out.below B3.out)).mono ?_
    rintro en w4 ⟨rfl, hb⟩
    have B4 := Lib.hid (gb_trans B3.out hb)
    clear hb
    go_wp2_with fail
    refine (place_fault n p _ (HG.out.below B4.out)).mono ?_
    rintro en w5 ⟨rfl, hb⟩
    have B5 := Lib.hid (gb_trans B4.out hb)
    clear hb
    go_wp2_with fail
    go_ret
    exact ⟨rt_bool (by simp [hn0]), B5.out⟩
end Go.Proofs.YteciceelinbfoaaDoor
