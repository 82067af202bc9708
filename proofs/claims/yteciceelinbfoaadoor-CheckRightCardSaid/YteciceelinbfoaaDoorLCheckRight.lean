import Derived.Test.YteciceelinbfoaaDoorCr2
import Derived.Test.YteciceelinbfoaaDoorRdc
set_option linter.unusedVariables false
namespace Go.Proofs.YteciceelinbfoaaDoor
open Go.RowKit Mq

set_option maxRecDepth 100000 in
set_option maxHeartbeats 4000000 in
theorem walk_CheckRight (s : ShV) (w : World) (hs : ShOk w s) (hG : ErrG w) :
    Calls Tryd.prog 3 #[.agg (shc s).toArray] w fun e w' => e = .returned (.bool true) ∧ Below w.heap.size w w' := by
  unfold shc slv
  have HS := Lib.hid hs
  have HG := Lib.hid hG
  clear hs hG
  go_enter Tryd.func3, Tryd.ntmps3
  go_wp2_with fail
  have hb0 := gb_alloc (Below.refl w.heap.size w) (.cells #[.int .u8 s.n, .slice s.links.A s.links.l.length s.links.cap, .slice s.maps.A s.maps.l.length s.maps.cap, .slice s.names.A s.names.l.length s.names.cap, .slice s.nets.A s.nets.l.length s.nets.cap, .slice s.ways.A s.ways.l.length s.ways.cap] 25)
  have t0 := gb_new w (.cells #[.int .u8 s.n, .slice s.links.A s.links.l.length s.links.cap, .slice s.maps.A s.maps.l.length s.maps.cap, .slice s.names.A s.names.l.length s.names.cap, .slice s.nets.A s.nets.l.length s.nets.cap, .slice s.ways.A s.ways.l.length s.ways.cap] 25)
  refine (awake09 _ (HG.out.below hb0)).mono ?_
  rintro en w1 ⟨rfl, hb⟩
  have T0 := Lib.hid (gb_blk hb t0 (gb_lt t0))
  have B1 := Lib.hid (gb_trans hb0 hb)
  clear hb0 hb t0
  obtain ⟨x0, x1, x2, x3, x4, x5⟩ := gb_cells6 T0.out
  go_wp2_with fail
  refine (shape_any s _ (HS.out.below B1.out)).mono ?_
  rintro en w2 ⟨c, rfl, hc, hsp, hb⟩
  have CC := Lib.hid (config_any c w2 hc)
  have HR := Lib.hid (cfg_right hsp)
  have B2 := Lib.hid (gb_trans B1.out hb)
  clear hc hsp hb x0 x1 x2 x3 x4 x5
  go_wp2_with fail
  refine CC.out.mono ?_
  rintro en w3 ⟨rfl, hb⟩
  rw [HR.out]
  unfold errP
  have B3 := Lib.hid (gb_trans B2.out hb)
  clear hb
  go_wp2_with fail
  go_ret
  exact ⟨rt_bool (by simp), B3.out⟩
end Go.Proofs.YteciceelinbfoaaDoor
