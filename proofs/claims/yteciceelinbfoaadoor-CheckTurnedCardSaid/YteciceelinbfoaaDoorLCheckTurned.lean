import Derived.Test.YteciceelinbfoaaDoorTu
import Derived.Test.YteciceelinbfoaaDoorWr
import Derived.Test.YteciceelinbfoaaDoorRdc
set_option linter.unusedVariables false
namespace Go.Proofs.YteciceelinbfoaaDoor
open Go.RowKit Mq

theorem shape_bd {s : ShV} {c : CfV} (h : CfSpec s c) : BdC 8 c := by
  have hm : c.maps.l.length ≤ 8 := by have := congrArg List.length h.maps; simp at this; omega
  refine ⟨hm, by rw [h.len]; omega, fun u hu => ?_⟩
  obtain ⟨k, hk, he⟩ := List.mem_iff_getElem.1 hu
  have hs := h.rts k u (by rw [← he]; exact List.getElem?_eq_getElem hk)
  refine ⟨Nat.le_trans hs.nets (by omega), ?_, ?_⟩
  · have h1 := congrArg List.length hs.peers
    rw [List.length_map] at h1
    unfold peersL at h1
    rw [List.length_map] at h1
    have h2 := List.length_filter_le (conn s (s.n % 8) k) (List.range (s.n % 8))
    rw [List.length_range] at h2
    omega
  · rcases hs.stats with h1 | ⟨x, h1, -⟩ <;> rw [h1] <;> simp
set_option maxRecDepth 100000 in
set_option maxHeartbeats 4000000 in
theorem walk_CheckTurned (s : ShV) (h1 n1 h2 n2 : Nat) (w : World) (hs : ShOk w s) (hh1 : h1 < 256) (hn1 : n1 < 256) (hh2 : h2 < 256) (hn2 : n2 < 256) (hG : ErrG w) :
    Calls Tryd.prog 4 #[.agg (shc s).toArray, .int .u8 h1, .int .u8 n1, .int .u8 h2, .int .u8 n2] w fun e w' => e = .returned (.bool true) ∧ Below w.heap.size w w' := by
  unfold shc slv
  have HS := Lib.hid hs
  have HG := Lib.hid hG
  clear hs hG
  go_enter Tryd.func4, Tryd.ntmps4
  go_wp2_with fail
  have hb0 := gb_alloc (Below.refl w.heap.size w) (.cells #[.int .u8 s.n, .slice s.links.A s.links.l.length s.links.cap, .slice s.maps.A s.maps.l.length s.maps.cap, .slice s.names.A s.names.l.length s.names.cap, .slice s.nets.A s.nets.l.length s.nets.cap, .slice s.ways.A s.ways.l.length s.ways.cap] 25)
  have t0 := gb_new w (.cells #[.int .u8 s.n, .slice s.links.A s.links.l.length s.links.cap, .slice s.maps.A s.maps.l.length s.maps.cap, .slice s.names.A s.names.l.length s.names.cap, .slice s.nets.A s.nets.l.length s.nets.cap, .slice s.ways.A s.ways.l.length s.ways.cap] 25)
  refine (awake09 _ (HG.out.below hb0)).mono ?_
  rintro en w1 ⟨rfl, hb⟩
  have T0 := Lib.hid (gb_blk hb t0 (gb_lt t0))
  have B1 := Lib.hid (gb_trans hb0 hb)
  clear hb0 hb t0
  obtain ⟨x0, x1, x2, x3, x4, x5⟩ := gb_cells6 T0.out
  go_wp2_with fail
  refine (shape_any s _ (HS.out.below B1.out)).mono ?_
  rintro en w2 ⟨c, rfl, hc, hsp, hb⟩
  have C1 := Lib.hid (turn_any c h1 n1 8 w2 hc (shape_bd hsp) (by omega) hh1 hn1)
  have B2 := Lib.hid (gb_trans B1.out hb)
  clear hc hsp hb x0 x1 x2 x3 x4 x5
  go_wp2_with fail
  refine C1.out.mono ?_
  rintro en w3 ⟨c2, rfl, hc, hbd, hb⟩
  have C2 := Lib.hid (turn_any c2 h2 n2 17 w3 hc hbd (by omega) hh2 hn2)
  have B3 := Lib.hid (gb_trans B2.out hb)
  clear hc hbd hb
  go_wp2_with fail
  refine C2.out.mono ?_
  rintro en w4 ⟨d, rfl, hc, hbd, hb⟩
  have HC := Lib.hid hc
  have B4 := Lib.hid (gb_trans B3.out hb)
  clear hc hbd hb C1 C2
  cases hq : cfgBad d with
  | none =>
    have CC : Hid (∀ w, CfOk w d → Calls Tryd.prog 9 #[.agg #[.slice d.maps.A d.maps.l.length d.maps.cap, .slice d.rts.A d.rts.l.length d.rts.cap]] w fun e w' => e = .returned .nilIface ∧ Below w.heap.size w w') := Lib.hid (fun w h => (config_any d w h).mono fun e w' h => ⟨by rw [h.1, hq]; rfl, h.2⟩)
    have CW : Hid (∀ w, CfOk w d → Calls Tryd.prog 12 #[.agg #[.slice d.maps.A d.maps.l.length d.maps.cap, .slice d.rts.A d.rts.l.length d.rts.cap]] w fun e w' => e = .returned (.tuple #[.int .i64 0, .int .i64 (-1)]) ∧ Below w.heap.size w w') := Lib.hid (fun w h => (wrong_any d w h).mono fun e w' h => ⟨by rw [h.1]; unfold wrongV; rw [hq]; rfl, h.2⟩)
    clear hq
    go_upto_region 4 with fail
    have t5 := gb_new w4 (.cells #[.slice d.maps.A d.maps.l.length d.maps.cap, .slice d.rts.A d.rts.l.length d.rts.cap] 33)
    have hb5 := gb_alloc (Below.refl w4.heap.size w4) (.cells #[.slice d.maps.A d.maps.l.length d.maps.cap, .slice d.rts.A d.rts.l.length d.rts.cap] 33)
    have HC5 := Lib.hid (HC.out.below hb5)
    have B5 := Lib.hid (gb_trans B4.out hb5)
    obtain ⟨qd, hqd⟩ : ∃ n, n = w4.heap.size := ⟨_, rfl⟩
    rw [← hqd] at t5 ⊢
    generalize w4.alloc (.cells #[.slice d.maps.A d.maps.l.length d.maps.cap, .slice d.rts.A d.rts.l.length d.rts.cap] 33) = w5 at *
    have T5 := Lib.hid t5
    clear t5 hb5 hqd
    obtain ⟨x0, x1⟩ := gb_cells2 T5.out
    go_wp2_with fail
    refine (CC.out _ HC5.out).mono ?_
    rintro en w6 ⟨rfl, hb⟩
    have HC6 := Lib.hid (HC5.out.below hb)
    have B6 := Lib.hid (gb_trans B5.out hb)
    clear x0 x1
    obtain ⟨x0, x1⟩ := gb_cells2 (gb_blk hb T5.out (gb_lt T5.out))
    clear hb
    go_wp2_with fail
    refine (CW.out _ HC6.out).mono ?_
    rintro en w7 ⟨rfl, hb⟩
    have B7 := Lib.hid (gb_trans B6.out hb)
    clear hb x0 x1
    go_wp2_with fail
    refine (number_nil _).mono ?_
    rintro en w8 ⟨rfl, hb⟩
    have B8 := Lib.hid (gb_trans B7.out hb)
    clear hb
    go_wp2_with fail
    refine (place_nil _).mono ?_
    rintro en w9 ⟨rfl, hb⟩
    have B9 := Lib.hid (gb_trans B8.out hb)
    clear hb
    go_wp2_with fail
    go_ret
    exact ⟨rt_bool (by simp), B9.out⟩
  | some q =>
    obtain ⟨n, p⟩ := q
    have hnum := cfgBad_num hq
    simp only at hnum
    have hn0 : (n == 0) = false := by simp; omega
    have CC : Hid (∀ w, CfOk w d → Calls Tryd.prog 9 #[.agg #[.slice d.maps.A d.maps.l.length d.maps.cap, .slice d.rts.A d.rts.l.length d.rts.cap]] w fun e w' => e = .returned (.iface 82 (.agg #[.int .i64 n, .int .i64 p])) ∧ Below w.heap.size w w') := Lib.hid (fun w h => (config_any d w h).mono fun e w' h => ⟨by rw [h.1, hq]; rfl, h.2⟩)
    have CW : Hid (∀ w, CfOk w d → Calls Tryd.prog 12 #[.agg #[.slice d.maps.A d.maps.l.length d.maps.cap, .slice d.rts.A d.rts.l.length d.rts.cap]] w fun e w' => e = .returned (.tuple #[.int .i64 n, .int .i64 p]) ∧ Below w.heap.size w w') := Lib.hid (fun w h => (wrong_any d w h).mono fun e w' h => ⟨by rw [h.1]; unfold wrongV; rw [hq]; rfl, h.2⟩)
    clear hq hnum
    go_upto_region 4 with fail
    have t5 := gb_new w4 (.cells #[.slice d.maps.A d.maps.l.length d.maps.cap, .slice d.rts.A d.rts.l.length d.rts.cap] 33)
    have hb5 := gb_alloc (Below.refl w4.heap.size w4) (.cells #[.slice d.maps.A d.maps.l.length d.maps.cap, .slice d.rts.A d.rts.l.length d.rts.cap] 33)
    have HC5 := Lib.hid (HC.out.below hb5)
    have B5 := Lib.hid (gb_trans B4.out hb5)
    obtain ⟨qd, hqd⟩ : ∃ n, n = w4.heap.size := ⟨_, rfl⟩
    rw [← hqd] at t5 ⊢
    generalize w4.alloc (.cells #[.slice d.maps.A d.maps.l.length d.maps.cap, .slice d.rts.A d.rts.l.length d.rts.cap] 33) = w5 at *
    have T5 := Lib.hid t5
    clear t5 hb5 hqd
    obtain ⟨x0, x1⟩ := gb_cells2 T5.out
    go_wp2_with fail
    refine (CC.out _ HC5.out).mono ?_
    rintro en w6 ⟨rfl, hb⟩
    have HC6 := Lib.hid (HC5.out.below hb)
    have B6 := Lib.hid (gb_trans B5.out hb)
    clear x0 x1
    obtain ⟨x0, x1⟩ := gb_cells2 (gb_blk hb T5.out (gb_lt T5.out))
    clear hb
    go_wp2_with fail
    refine (CW.out _ HC6.out).mono ?_
    rintro en w7 ⟨rfl, hb⟩
    have B7 := Lib.hid (gb_trans B6.out hb)
    clear hb x0 x1
    go_wp2_with fail
    refine (number_fault n p _ (HG.out.below B7.out)).mono ?_
    rintro en w8 ⟨rfl, hb⟩
    have B8 := Lib.hid (gb_trans B7.out hb)
    clear hb
    go_wp2_with fail
    refine (place_fault n p _ (HG.out.below B8.out)).mono ?_
    rintro en w9 ⟨rfl, hb⟩
    have B9 := Lib.hid (gb_trans B8.out hb)
    clear hb
    go_wp2_with fail
    go_ret
    exact ⟨rt_bool (by simp [hn0]), B9.out⟩
end Go.Proofs.YteciceelinbfoaaDoor
