import Derived.Test.YteciceelinbfoaaDoorLs
import Derived.Test.YteciceelinbfoaaDoorAps
import Derived.Test.YteciceelinbfoaaDoorPe
import Derived.Test.YteciceelinbfoaaDoorRdc
set_option linter.unusedVariables false
namespace Go.Proofs.YteciceelinbfoaaDoor
open Go.RowKit Mq

set_option maxRecDepth 100000 in
set_option maxHeartbeats 4000000 in
theorem walk_CheckLess (s : ShV) (n8 : Nat) (w : World) (hs : ShOk w s) (hn8 : n8 < 256) (hG : ErrG w) :
    Calls Tryd.prog 7 #[.agg (shc s).toArray, .int .u8 n8] w fun e w' => e = .returned (.bool true) ∧ Below w.heap.size w w' := by
  unfold shc slv
  have HS := Lib.hid hs
  have HG := Lib.hid hG
  obtain ⟨im, him, hzm0, hzm1, hzm2⟩ := info_parts zmap
  obtain ⟨ir, hir, hzr0, hzr1, hzr2⟩ := info_parts zrt
  have IM := Lib.hid him; have IM0 := Lib.hid hzm0; have IM1 := Lib.hid hzm1; have IM2 := Lib.hid hzm2
  have IR := Lib.hid hir; have IR0 := Lib.hid hzr0; have IR1 := Lib.hid hzr1; have IR2 := Lib.hid hzr2
  clear hs hG him hzm0 hzm1 hzm2 hir hzr0 hzr1 hzr2
  go_enter Tryd.func7, Tryd.ntmps7
  go_wp2_with fail
  have hb0 := gb_alloc (Below.refl w.heap.size w) (.cells #[.int .u8 s.n, .slice s.links.A s.links.l.length s.links.cap, .slice s.maps.A s.maps.l.length s.maps.cap, .slice s.names.A s.names.l.length s.names.cap, .slice s.nets.A s.nets.l.length s.nets.cap, .slice s.ways.A s.ways.l.length s.ways.cap] 25)
  have t0 := gb_new w (.cells #[.int .u8 s.n, .slice s.links.A s.links.l.length s.links.cap, .slice s.maps.A s.maps.l.length s.maps.cap, .slice s.names.A s.names.l.length s.names.cap, .slice s.nets.A s.nets.l.length s.nets.cap, .slice s.ways.A s.ways.l.length s.ways.cap] 25)
  refine (awake09 _ (HG.out.below hb0)).mono ?_
  rintro en w1 ⟨rfl, hb⟩
  have T0 := Lib.hid (gb_blk hb t0 (gb_lt t0))
  have B1 := Lib.hid (gb_trans hb0 hb)
  clear hb0 hb t0
  obtain ⟨x0, x1, x2, x3, x4, x5⟩ := gb_cells6 T0.out
  go_wp2_with fail
  refine (shape_any s _ (HS.out.below B1.out)).mono ?_
  rintro en w2 ⟨c, rfl, hc, hsp, hb⟩
  have HC := Lib.hid hc
  have HP := Lib.hid hsp
  have B2 := Lib.hid (gb_trans B1.out hb)
  have hml := hc.maps.len_le
  have hrl := hc.rts.len_le
  have hr8 : c.rts.l.length < 8 := by rw [hsp.len]; omega
  have hm4 : c.maps.l.length ≤ 4 := by have := congrArg List.length hsp.maps; simp at this; omega
  clear hc hsp hb x0 x1 x2 x3 x4 x5
  go_upto_region 5 with fail
  have p0 := gb_old _ (.cells #[.slice none 0 0, .slice none 0 0] 33) (gb_new w2 (.cells #[.slice c.maps.A c.maps.l.length c.maps.cap, .slice c.rts.A c.rts.l.length c.rts.cap] 33))
  have p1 := gb_new (w2.alloc (.cells #[.slice c.maps.A c.maps.l.length c.maps.cap, .slice c.rts.A c.rts.l.length c.rts.cap] 33)) (.cells #[.slice none 0 0, .slice none 0 0] 33)
  simp only [World.size_alloc] at p1
  have hB := gb_alloc (gb_alloc (Below.refl w2.heap.size w2) (.cells #[.slice c.maps.A c.maps.l.length c.maps.cap, .slice c.rts.A c.rts.l.length c.rts.cap] 33)) (.cells #[.slice none 0 0, .slice none 0 0] 33)
  have hz : ((w2.alloc (.cells #[.slice c.maps.A c.maps.l.length c.maps.cap, .slice c.rts.A c.rts.l.length c.rts.cap] 33)).alloc (.cells #[.slice none 0 0, .slice none 0 0] 33)).heap.size = w2.heap.size + 2 := by simp
  generalize (w2.alloc (.cells #[.slice c.maps.A c.maps.l.length c.maps.cap, .slice c.rts.A c.rts.l.length c.rts.cap] 33)).alloc (.cells #[.slice none 0 0, .slice none 0 0] 33) = W0 at *
  obtain ⟨q5, hq5⟩ : ∃ n, n = w2.heap.size := ⟨_, rfl⟩
  rw [← hq5] at p0 p1 hB hz ⊢
  obtain ⟨B0, hB0⟩ : ∃ B0, B0 = q5 + 2 := ⟨_, rfl⟩
  rw [← hB0] at hz
  have HQ := Lib.hid hq5
  have HB0 := Lib.hid hB0
  have hB0l : q5 + 1 < B0 := by omega
  clear hq5 hB0
  obtain ⟨y0, y1⟩ := gb_cells2 p0
  have f0 := gb_free p1 0
  obtain ⟨z0, z1⟩ := gb_cells2 p1
  go_upto_region 6 with fail
  have C5 := Lib.hid (gb_far p0 (p := ⟨q5 + 1, 0, none⟩) (by simp) (.slice c.maps.A c.maps.l.length c.maps.cap))
  have C6 : Hid ((W0.setCell ⟨q5 + 1, 0, none⟩ (.slice c.maps.A c.maps.l.length c.maps.cap)).heap[q5 + 1]? = some (.cells #[.slice c.maps.A c.maps.l.length c.maps.cap, .slice none 0 0] 33)) := Lib.hid (by simpa using gb_set p1 0 (.slice c.maps.A c.maps.l.length c.maps.cap))
  have D0 := Lib.hid (Below.setCell (p := ⟨q5 + 1, 0, none⟩) hB (by simp) (.slice c.maps.A c.maps.l.length c.maps.cap))
  have HZ : Hid (B0 ≤ (W0.setCell ⟨q5 + 1, 0, none⟩ (.slice c.maps.A c.maps.l.length c.maps.cap)).heap.size) := Lib.hid (by simp; omega)
  clear p0 p1 hB hz f0 y0 y1 z0 z1
  generalize W0.setCell ⟨q5 + 1, 0, none⟩ (.slice c.maps.A c.maps.l.length c.maps.cap) = W1 at *
  obtain ⟨y0, y1⟩ := gb_cells2 C5.out
  go_wp2_with fail
  go_loopw [27] (fun j wr => ∃ (k : Nat) (rs : List RtV) (Ar : Option Addr) (cr : Nat), j = .int .i64 k ∧ k ≤ c.rts.l.length ∧ Hid (rs = (c.rts.l.take k).map bareR) ∧ Hid (wr.ownsRow B0 48 5 (.slice Ar rs.length cr) rs.length (rs.flatMap rtc)) ∧ Hid (wr.heap[q5 + 1]? = some (.cells #[.slice c.maps.A c.maps.l.length c.maps.cap, .slice Ar rs.length cr] 33)) ∧ Hid (wr.heap[q5]? = some (.cells #[.slice c.maps.A c.maps.l.length c.maps.cap, .slice c.rts.A c.rts.l.length c.rts.cap] 33)) ∧ Hid (Below q5 w2 wr) ∧ Hid (B0 ≤ wr.heap.size)) (fun j _ => c.rts.l.length - (intOf j).toNat)
  case atStart => exact ⟨0, [], none, 0, rfl, by omega, Lib.hid rfl, Lib.hid (World.ownsRow_nil W1 B0 48 5), C6, C5, D0, HZ⟩
  case round =>
    obtain ⟨k, rs, Ar, cr, rfl, hk, HRS, HO, T6, T5, HB, HW⟩ := hrel
    have HRL : Hid (rs.length = k) := Lib.hid (by rw [HRS.out]; simp; omega)
    have hrs8 : rs.length < 8 := by rw [HRL.out]; omega
    have hq5w : q5 ≤ wr.heap.size := by have := HB.out.size; have := HQ.out; omega
    have HCw := Lib.hid (HC.out.below (by have := HB.out; rwa [HQ.out] at this))
    by_cases hlt : k < c.rts.l.length
    · obtain ⟨x, hx⟩ : ∃ x, c.rts.l[k]? = some x := ⟨_, List.getElem?_eq_getElem hlt⟩
      have HX := Lib.hid hx
      obtain ⟨b, off, hA, hbb, e0, e1, e2, e3, e4⟩ := rts_get HCw.out.rts.at_ hx
      have HA := Lib.hid hA
      rw [hA]
      clear hx hA y0 y1
      go_upto_region 9 with fail
      have t8 := gb_new wr (.cells #[.string x.name, .slice x.nets.A x.nets.l.length x.nets.cap, .slice x.links.A x.links.l.length x.links.cap, .slice x.stats.A x.stats.l.length x.stats.cap, .int .i64 x.at_] 48)
      have hb8 := gb_alloc (Below.refl wr.heap.size wr) (.cells #[.string x.name, .slice x.nets.A x.nets.l.length x.nets.cap, .slice x.links.A x.links.l.length x.links.cap, .slice x.stats.A x.stats.l.length x.stats.cap, .int .i64 x.at_] 48)
      obtain ⟨xb, hxb⟩ : ∃ n, n = wr.heap.size := ⟨_, rfl⟩
      have o8 := ow_alloc HO.out (.cells #[.string x.name, .slice x.nets.A x.nets.l.length x.nets.cap, .slice x.links.A x.links.l.length x.links.cap, .slice x.stats.A x.stats.l.length x.stats.cap, .int .i64 x.at_] 48)
      have u6 := gb_old wr (.cells #[.string x.name, .slice x.nets.A x.nets.l.length x.nets.cap, .slice x.links.A x.links.l.length x.links.cap, .slice x.stats.A x.stats.l.length x.stats.cap, .int .i64 x.at_] 48) T6.out
      have u5 := gb_old wr (.cells #[.string x.name, .slice x.nets.A x.nets.l.length x.nets.cap, .slice x.links.A x.links.l.length x.links.cap, .slice x.stats.A x.stats.l.length x.stats.cap, .int .i64 x.at_] 48) T5.out
      rw [← hxb] at t8 ⊢
      generalize wr.alloc (.cells #[.string x.name, .slice x.nets.A x.nets.l.length x.nets.cap, .slice x.links.A x.links.l.length x.links.cap, .slice x.stats.A x.stats.l.length x.stats.cap, .int .i64 x.at_] 48) = wa at *
      have X8 := Lib.hid t8
      have O8 := Lib.hid o8
      have U6 := Lib.hid u6
      have U5 := Lib.hid u5
      have HXB := Lib.hid hxb
      have B8 := Lib.hid (HB.out.trans (hb8.mono hq5w))
      have h8s := hb8.size
      obtain ⟨z0, z1, z2, z3, z4⟩ := gb_cells5 t8
      obtain ⟨q0, q1⟩ := gb_cells2 u6
      have fq := gb_free u6 1
      have l6 := gb_lt u6
      have lB0 : B0 ≤ wa.heap.size := Nat.le_trans HW.out hb8.size
      clear t8 o8 u6 u5 hxb hb8 e0 e1 e2 e3 e4
      go_wp2_with (first
        | (at_builtin; refine wpList_append_lies _ rfl _ _ _ rfl B0 48 ir _ 5 96 Tryd.underlying31 IR.out IR0.out IR1.out IR2.out rfl (by omega) (.slice Ar rs.length cr) rs.length (rs.flatMap rtc) rfl (ow_alloc O8.out _) ⟨wa.heap.size, 0, none⟩ 1 1 [.string x.name, .slice x.nets.A x.nets.l.length x.nets.cap, .slice none 0 0, .slice none 0 0, .int .i64 0] rfl rfl (World.news_of_block (cs := ([.string x.name, .slice x.nets.A x.nets.l.length x.nets.cap, .slice none 0 0, .slice none 0 0, .int .i64 0]).toArray) (heap_alloc_new wa _)) (by intro u hu; simp at hu; rcases hu with rfl | rfl | rfl | rfl | rfl <;> rfl) (by omega) (by unfold maxLen; omega) (by omega) (by simp; omega) (wa.heap.size + 1) (by simp) ?_; intro g cap' w9 hown9 hgrow hat hlt9; have O9 := Lib.hid hown9; have G9 := Lib.hid hgrow; have T9 := Lib.hid (blk_grown (gb_old wa _ U6.out) (ow_alloc O8.out _) (by decide) hgrow); have S9 := Lib.hid (blk_grown (gb_old wa _ U5.out) (ow_alloc O8.out _) (by decide) hgrow); obtain ⟨q0, q1⟩ := gb_cells2 T9.out; have fq := gb_free T9.out 1; have l9 := gb_lt T9.out; clear hown9 hgrow hat hlt9)
        | fail)
      clear q0 q1 z0 z1 z2 z3 z4 fq
      go_roundw
      case measure => simp [intOf] <;> omega
      case rel =>
        have g9 := G9.out
        have hz9 := g9.size
        simp only [World.size_alloc] at hz9
        have o9 := O9.out
        have hu : [.string x.name, .slice x.nets.A x.nets.l.length x.nets.cap, .slice none 0 0, .slice none 0 0, .int .i64 0] = rtc (bareR x) := rfl
        rw [hu] at o9
        have o10 := own_store (own_snoc (enc := rtc) o9) T9.out (by decide) 1 (.slice (some ⟨g, 0, none⟩) (rs.length + 1) cap')
        have hb9 := ow_grown (Below.alloc B8.out (by omega) _) g9 (own_le O8.out (show q5 ≤ B0 by omega)) (by simp; omega)
        refine ⟨k + 1, rs ++ [bareR x], some ⟨g, 0, none⟩, cap', by go_num, by omega, Lib.hid ?_, Lib.hid o10, Lib.hid (by simpa using gb_set T9.out 1 (.slice (some ⟨g, 0, none⟩) (rs.length + 1) cap')), by rw [← HA.out]; exact Lib.hid (gb_far S9.out (p := ⟨q5 + 1, 1, none⟩) (by simp) _), Lib.hid (Below.setCell hb9 (by simp) _), Lib.hid (by simp; omega)⟩
        rw [HRS.out, take_map_succ HX.out]
    · obtain rfl : c.rts.l.length = k := by omega
      have hrf : rs = c.rts.l.map bareR := by have := HRS.out; rwa [List.take_length] at this
      clear y0 y1
      obtain ⟨y0, y1⟩ := gb_cells2 T6.out
      have HBARE : Hid (CfOk wr ⟨c.maps, ⟨Ar, cr, rs⟩⟩) := Lib.hid ⟨HCw.out.maps, own_slok HO.out rtc_len (by omega) (fun u hu => by
        rw [hrf] at hu
        obtain ⟨v, hv, rfl⟩ := List.mem_map.1 hu
        exact ⟨(HCw.out.rts.ok v hv).nets, slok_nil, slok_nil⟩)⟩
      have CC := Lib.hid (config_any ⟨c.maps, ⟨Ar, cr, rs⟩⟩ wr HBARE.out)
      have HR : Hid (cfgBad ⟨c.maps, ⟨Ar, cr, rs⟩⟩ = none) := Lib.hid (by rw [hrf]; exact bare_right HP.out)
      clear hrf
      go_wp2_with fail
      refine CC.out.mono ?_
      rintro en w3 ⟨rfl, hb⟩
      rw [HR.out]
      unfold errP
      have T5b := Lib.hid (gb_blk hb T5.out (gb_lt T5.out))
      have B3 := Lib.hid (HB.out.trans (hb.mono hq5w))
      have HC3 := Lib.hid (HCw.out.below hb)
      have hw3 := hb.size
      clear hb y0 y1
      obtain ⟨y0, y1⟩ := gb_cells2 T5b.out
      have l5 := gb_lt T5b.out
      by_cases hm0 : c.maps.l.length = 0
      · go_wp2_with fail
        go_ret
        exact ⟨rt_bool rfl, gb_trans B2.out (by have := B3.out; rwa [HQ.out] at this)⟩
      · obtain ⟨kk, hkl, HKK⟩ : ∃ kk, kk < c.maps.l.length ∧ Hid (kk = n8 % c.maps.l.length) := ⟨_, Nat.mod_lt _ (by omega), Lib.hid rfl⟩
        have ek4 : IntKind.i64.wrap (kk : Int) = (kk : Int) := by rw [IntKind.wrap_i64]; omega
        have hne : ((c.maps.l.length : Int) = 0) = False := eq_false (by omega)
        have ek0 : IntKind.i64.wrap (n8 : Int) = (n8 : Int) := by rw [IntKind.wrap_i64]; omega
        have ek1 : (n8 : Int) % (c.maps.l.length : Int) = (kk : Int) := by rw [HKK.out]; exact (Int.natCast_emod _ _).symm
        have ek2 : (n8 : Int).tmod (c.maps.l.length : Int) = (kk : Int) := by rw [Int.tmod_eq_emod_of_nonneg (Int.natCast_nonneg n8), ek1]
        obtain ⟨m, hm⟩ : ∃ m, c.maps.l[kk]? = some m := ⟨_, List.getElem?_eq_getElem hkl⟩
        obtain ⟨bm, om, hAm, hbm, g0, g1, g2⟩ := mps_get HC3.out.maps.at_ hm
        have HM := Lib.hid hm
        have HAM := Lib.hid hAm
        have GM : Hid (∀ w', Below w3.heap.size w3 w' → w'.cell? ⟨bm, om + kk * 3, none⟩ = some (.string m.name)) := Lib.hid fun w' hb => (hb.cell (p := ⟨bm, om + kk * 3, none⟩) hbm).trans g0
        clear hm g0 g1 g2
        clear hAm
        go_upto_region 17 with fail
        rw [HAM.out] at T5b y0
        go_wp2_with fail
        clear hne ek0 ek1 ek2 ek4 y0 y1
        go_loopw [10, 58] (fun f j wr => ∃ (i : Nat) (bb : Bool), j = .int .i64 i ∧ i ≤ c.rts.l.length ∧ f = .bool bb ∧ Hid (bb = nmd (c.rts.l.take i) m.name) ∧ Hid (Below w3.heap.size w3 wr)) (fun _ j _ => c.rts.l.length - (intOf j).toNat)
        case atStart => exact ⟨0, false, rfl, by omega, rfl, Lib.hid rfl, Lib.hid (Below.refl _ _)⟩
        case round =>
          obtain ⟨i, bb, rfl, hi, rfl, HBB, HB4⟩ := hrel
          have HC4 := Lib.hid (HC3.out.below HB4.out)
          by_cases hlt : i < c.rts.l.length
          · obtain ⟨x, hx⟩ : ∃ x, c.rts.l[i]? = some x := ⟨_, List.getElem?_eq_getElem hlt⟩
            have HX := Lib.hid hx
            obtain ⟨b, off, hA, hbb, e0, e1, e2, e3, e4⟩ := rts_get HC4.out.rts.at_ hx
            have HA := Lib.hid hA
            have HXO := Lib.hid (HC4.out.rts.ok x (List.mem_of_getElem? hx))
            have hxl := HXO.out.links.len_le
            rw [hA]
            clear hx hA
            go_upto_region 20 with fail
            have t8 := gb_new wr (.cells #[.string x.name, .slice x.nets.A x.nets.l.length x.nets.cap, .slice x.links.A x.links.l.length x.links.cap, .slice x.stats.A x.stats.l.length x.stats.cap, .int .i64 x.at_] 48)
            have hb8 := gb_alloc (Below.refl wr.heap.size wr) (.cells #[.string x.name, .slice x.nets.A x.nets.l.length x.nets.cap, .slice x.links.A x.links.l.length x.links.cap, .slice x.stats.A x.stats.l.length x.stats.cap, .int .i64 x.at_] 48)
            obtain ⟨xb, hxb⟩ : ∃ n, n = wr.heap.size := ⟨_, rfl⟩
            have hxb3 : w3.heap.size ≤ xb := by rw [hxb]; exact HB4.out.size
            rw [← hxb] at t8 ⊢
            generalize wr.alloc (.cells #[.string x.name, .slice x.nets.A x.nets.l.length x.nets.cap, .slice x.links.A x.links.l.length x.links.cap, .slice x.stats.A x.stats.l.length x.stats.cap, .int .i64 x.at_] 48) = wa at *
            have HXB := Lib.hid hxb
            have B8 := Lib.hid hb8
            have HXA := Lib.hid (HXO.out.below hb8)
            obtain ⟨z0, z1, z2, z3, z4⟩ := gb_cells5 t8
            clear t8 hxb hb8 e0 e1 e2 e3 e4
            go_wp2_with fail
            clear z0 z1 z2 z3 z4
            go_loopw [10, 65] (fun f j wr => ∃ (p : Nat) (b2 : Bool), j = .int .i64 p ∧ p ≤ x.links.l.length ∧ f = .bool b2 ∧ Hid (b2 = (bb || (x.links.l.take p).any (nmd1 m.name))) ∧ Hid (Below wa.heap.size wa wr)) (fun _ j _ => x.links.l.length - (intOf j).toNat)
            case atStart => exact ⟨0, bb, rfl, by omega, rfl, Lib.hid (by simp), Lib.hid (Below.refl _ _)⟩
            case round =>
              obtain ⟨p, b2, rfl, hp, rfl, HB2, HB5⟩ := hrel
              by_cases hlt2 : p < x.links.l.length
              · obtain ⟨y, hy⟩ : ∃ y, x.links.l[p]? = some y := ⟨_, List.getElem?_eq_getElem hlt2⟩
                obtain ⟨b3, off3, hA3, hbb3, e0, e1, e2, e3, e4⟩ := lks_get (HXA.out.below HB5.out).links.at_ hy
                have HA3 := Lib.hid hA3
                have HNX := Lib.hid (take_any_next (p := nmd1 m.name) (k := p) rfl hy)
                rw [hA3]
                clear hy hA3
                go_upto_region 23 with fail
                have t9 := gb_new wr (.cells #[.string y.peer, .int .i64 y.cost, .string y.imp, .string y.exp, .int .i64 y.at_] 50)
                have hb9 := gb_alloc (Below.refl wr.heap.size wr) (.cells #[.string y.peer, .int .i64 y.cost, .string y.imp, .string y.exp, .int .i64 y.at_] 50)
                obtain ⟨yb, hyb⟩ : ∃ n, n = wr.heap.size := ⟨_, rfl⟩
                rw [← hyb] at t9 ⊢
                generalize wr.alloc (.cells #[.string y.peer, .int .i64 y.cost, .string y.imp, .string y.exp, .int .i64 y.at_] 50) = wb at *
                have B9 := Lib.hid (gb_trans HB5.out hb9)
                have BA : Hid (Below w3.heap.size w3 wb) := Lib.hid (HB4.out.trans ((B8.out.trans (B9.out.mono B8.out.size)).mono HB4.out.size))
                obtain ⟨z0, z1, z2, z3, z4⟩ := gb_cells5 t9
                obtain ⟨y0, y1⟩ := gb_cells2 (gb_blk BA.out T5b.out l5)
                have gm := GM.out _ BA.out
                clear t9 hyb hb9 e0 e1 e2 e3 e4
                cases b2 with
                | true =>
                  have HN2 : Hid (true = (bb || (x.links.l.take (p + 1)).any (nmd1 m.name))) := Lib.hid (by rw [HNX.out, ← Bool.or_assoc, ← HB2.out]; rfl)
                  go_quiet (fail)
                  go_wp2_with fail
                  go_roundw
                  case rel => exact ⟨p + 1, true, by go_num, by omega, rfl, HN2, Lib.hid (gb_drewN B9.out _)⟩
                  case measure => simp [intOf] <;> omega
                | false =>
                  cases h1 : (y.imp.toList == m.name.toList) with
                  | true =>
                    have HN2 : Hid (true = (bb || (x.links.l.take (p + 1)).any (nmd1 m.name))) := Lib.hid (by rw [HNX.out, ← Bool.or_assoc, ← HB2.out]; unfold nmd1; rw [h1]; rfl)
                    go_quiet (fail)
                    go_wp2_with fail
                    go_roundw
                    case rel => exact ⟨p + 1, true, by go_num, by omega, rfl, HN2, Lib.hid (gb_drewN B9.out _)⟩
                    case measure => simp [intOf] <;> omega
                  | false =>
                    cases h2 : (y.exp.toList == m.name.toList) with
                    | true =>
                      have HN2 : Hid (true = (bb || (x.links.l.take (p + 1)).any (nmd1 m.name))) := Lib.hid (by rw [HNX.out, ← Bool.or_assoc, ← HB2.out]; unfold nmd1; rw [h1, h2]; rfl)
                      go_quiet (fail)
                      go_wp2_with fail
                      go_roundw
                      case rel => exact ⟨p + 1, true, by go_num, by omega, rfl, HN2, Lib.hid (gb_drewN B9.out _)⟩
                      case measure => simp [intOf] <;> omega
                    | false =>
                      have HN2 : Hid (false = (bb || (x.links.l.take (p + 1)).any (nmd1 m.name))) := Lib.hid (by rw [HNX.out, ← Bool.or_assoc, ← HB2.out]; unfold nmd1; rw [h1, h2]; rfl)
                      go_quiet (fail)
                      go_wp2_with fail
                      go_roundw
                      case rel => exact ⟨p + 1, false, by go_num, by omega, rfl, HN2, Lib.hid (gb_drewN B9.out _)⟩
                      case measure => simp [intOf] <;> omega
              · obtain rfl : x.links.l.length = p := by omega
                go_wp2_with fail
                go_roundw
                case rel =>
                  refine ⟨i + 1, b2, by go_num, by omega, rfl, Lib.hid ?_, Lib.hid (HB4.out.trans ((B8.out.trans (HB5.out.mono B8.out.size)).mono HB4.out.size))⟩
                  have h := HB2.out
                  rw [List.take_length] at h
                  rw [h, HBB.out]
                  unfold nmd
                  exact (take_any_next rfl HX.out).symm
                case measure => simp [intOf] <;> omega
          · obtain rfl : c.rts.l.length = i := by omega
            have HN : Hid (bb = nmd c.rts.l m.name) := Lib.hid (by have := HBB.out; rwa [List.take_length] at this)
            have HS1 := slice_hi 30 57 Tryd.underlying30 (some ⟨bm, om, none⟩) c.maps.cap kk c.maps.l (by omega) HC3.out.maps.fits (enc := mpc) (size := 3) (by rw [IM.out, ← IM1.out]; rfl)
            have HS2 := slice_lo 30 57 Tryd.underlying30 (some ⟨bm, om, none⟩) c.maps.cap (kk + 1) c.maps.l (by omega) HC3.out.maps.fits (enc := mpc) (size := 3) (by rw [IM.out, ← IM1.out]; rfl)
            obtain ⟨l1, hl1⟩ : ∃ l1, l1 = c.maps.l.take kk := ⟨_, rfl⟩
            obtain ⟨l2, hl2⟩ : ∃ l2, l2 = c.maps.l.drop (kk + 1) := ⟨_, rfl⟩
            have hl14 : l1.length ≤ 4 := by rw [hl1]; simp; omega
            have hl24 : l2.length ≤ 4 := by rw [hl2]; simp; omega
            rw [← hl1] at HS1
            rw [← hl2] at HS2
            obtain ⟨A1, c1, hs1, SL1, -, -⟩ := HS1
            obtain ⟨A2, c2, hs2, SL2, -, -⟩ := HS2
            replace SL1 := Lib.hid SL1
            replace SL2 := Lib.hid SL2
            have HL1 := Lib.hid hl1
            have HL2 := Lib.hid hl2
            have hcast : ((kk + 1 : Nat) : Int) = (kk : Int) + 1 := by omega
            have MS : Hid (∀ w', Below wr.heap.size wr w' → Sli mpc 3 w' w3.heap.size (some ⟨bm, om, none⟩) c.maps.l) := Lib.hid fun w' hb => by have h := HC3.out.maps.at_.below (HB4.out.trans (hb.mono HB4.out.size)); rwa [HAM.out] at h
            have T7 := Lib.hid (gb_blk HB4.out T5b.out l5)
            have l7 := gb_lt T7.out
            rw [hcast] at hs2
            have ek5 : IntKind.i64.wrap ((kk : Int) + 1) = (kk : Int) + 1 := by rw [IntKind.wrap_i64]; omega
            clear hl1 hl2 hcast
            go_upto_region 26 with fail
            go_cut [15] (fun p wx => ∃ (xb : Nat) (Al : Option Addr) (cl : Nat), p = .pointer (some ⟨xb, 0, none⟩) ∧ wr.heap.size ≤ xb ∧ Hid (wx.heap[xb]? = some (.cells #[.slice Al (l1.length + l2.length) cl, .slice c.rts.A c.rts.l.length c.rts.cap] 33)) ∧ Hid (wx.ownsRow wr.heap.size 57 3 (.slice Al (l1.length + l2.length) cl) (l1.length + l2.length) (l1.flatMap mpc ++ l2.flatMap mpc)) ∧ Hid (Below wr.heap.size wr wx))
            case first =>
              refine wp_region_noPanic ?_
              refine Mq.wp_region_T 15 (fun w' => w'.cell? ⟨q5, 0, none⟩ = some (.slice (some ⟨bm, om, none⟩) c.maps.l.length c.maps.cap) ∧ w'.cell? ⟨q5, 1, none⟩ = some (.slice c.rts.A c.rts.l.length c.rts.cap)) (by kernel_rfl) ?_ (fun hHeld => ?_)
              · exact gb_cells2 (gb_blk (Below.refl wr.heap.size wr).drew T7.out l7)
              have BD := Lib.hid ((Below.refl wr.heap.size wr).drew)
              generalize wr.drew = wd at *
              refine Mq.T_take 0 (v := ?_) rfl (by kernel_rfl) (by kernel_rfl) (by kernel_rfl) (by kernel_rfl) (by kernel_rfl) (by kernel_rfl) (by kernel_rfl) (fun _ _ _ h => h) (by rfl) hHeld ?_ ?_
              rotate_left
              · (intro w hSw; (try dsimp only at hSw); go_simp; (try with_reducible rfl))
              try simp only [Act.put, List.setIfInBounds_toArray, List.set_cons_zero, List.set_cons_succ]
              refine Mq.T_take 1 (v := ?_) rfl (by kernel_rfl) (by kernel_rfl) (by kernel_rfl) (by kernel_rfl) (by kernel_rfl) (by kernel_rfl) (by kernel_rfl) (fun _ _ _ h => h) (by rfl) hHeld ?_ ?_
              rotate_left
              · (intro w hSw; (try dsimp only at hSw); go_simp; (try with_reducible rfl))
              try simp only [Act.put, List.setIfInBounds_toArray, List.set_cons_zero, List.set_cons_succ]
              refine Mq.T_take 2 (v := ?_) rfl (by kernel_rfl) (by kernel_rfl) (by kernel_rfl) (by kernel_rfl) (by kernel_rfl) (by kernel_rfl) (by kernel_rfl) (fun _ _ _ h => h) (by rfl) hHeld ?_ ?_
              rotate_left
              · (intro w hSw; (try dsimp only at hSw); go_simp; (try with_reducible rfl))
              try simp only [Act.put, List.setIfInBounds_toArray, List.set_cons_zero, List.set_cons_succ]
              refine Mq.T_take 3 (v := ?_) rfl (by kernel_rfl) (by kernel_rfl) (by kernel_rfl) (by kernel_rfl) (by kernel_rfl) (by kernel_rfl) (by kernel_rfl) (fun _ _ _ h => h) (by rfl) hHeld ?_ ?_
              rotate_left
              · (intro w hSw; (try dsimp only at hSw); go_simp; (try with_reducible rfl))
              try simp only [Act.put, List.setIfInBounds_toArray, List.set_cons_zero, List.set_cons_succ]
              refine Mq.T_take 4 (v := ?_) rfl (by kernel_rfl) (by kernel_rfl) (by kernel_rfl) (by kernel_rfl) (by kernel_rfl) (by kernel_rfl) (by kernel_rfl) (fun _ _ _ h => h) (by rfl) hHeld ?_ ?_
              rotate_left
              · (intro w hSw; (try dsimp only at hSw); go_simp; (try with_reducible rfl))
              try simp only [Act.put, List.setIfInBounds_toArray, List.set_cons_zero, List.set_cons_succ]
              refine Mq.T_take 5 (v := ?_) rfl (by kernel_rfl) (by kernel_rfl) (by kernel_rfl) (by kernel_rfl) (by kernel_rfl) (by kernel_rfl) (by kernel_rfl) (fun _ _ _ h => h) (by rfl) hHeld ?_ ?_
              rotate_left
              · (intro w hSw; (try dsimp only at hSw); go_simp; (try with_reducible rfl))
              try simp only [Act.put, List.setIfInBounds_toArray, List.set_cons_zero, List.set_cons_succ]
              refine Mq.T_take 7 (v := ?_) rfl (by kernel_rfl) (by kernel_rfl) (by kernel_rfl) (by kernel_rfl) (by kernel_rfl) (by kernel_rfl) (by kernel_rfl) (fun _ _ _ h => h) (by rfl) hHeld ?_ ?_
              rotate_left
              · (intro w hSw; (try dsimp only at hSw); go_simp; (try with_reducible rfl))
              try simp only [Act.put, List.setIfInBounds_toArray, List.set_cons_zero, List.set_cons_succ]
              refine Mq.T_take 8 (v := ?_) rfl (by kernel_rfl) (by kernel_rfl) (by kernel_rfl) (by kernel_rfl) (by kernel_rfl) (by kernel_rfl) (by kernel_rfl) (fun _ _ _ h => h) (by rfl) hHeld ?_ ?_
              rotate_left
              · (intro w hSw; (try dsimp only at hSw); go_simp; (try with_reducible rfl))
              try simp only [Act.put, List.setIfInBounds_toArray, List.set_cons_zero, List.set_cons_succ]
              refine Mq.T_take 9 (v := ?_) rfl (by kernel_rfl) (by kernel_rfl) (by kernel_rfl) (by kernel_rfl) (by kernel_rfl) (by kernel_rfl) (by kernel_rfl) (fun _ _ _ h => h) (by rfl) hHeld ?_ ?_
              rotate_left
              · (intro w hSw; (try dsimp only at hSw); go_simp; (try with_reducible rfl))
              try simp only [Act.put, List.setIfInBounds_toArray, List.set_cons_zero, List.set_cons_succ]
              refine Mq.T_take 10 (v := ?_) rfl (by kernel_rfl) (by kernel_rfl) (by kernel_rfl) (by kernel_rfl) (by kernel_rfl) (by kernel_rfl) (by kernel_rfl) (fun _ _ _ h => h) (by rfl) hHeld ?_ ?_
              rotate_left
              · (intro w hSw; (try dsimp only at hSw); go_simp; (try with_reducible rfl))
              try simp only [Act.put, List.setIfInBounds_toArray, List.set_cons_zero, List.set_cons_succ]
              refine Mq.T_take 11 (v := ?_) rfl (by kernel_rfl) (by kernel_rfl) (by kernel_rfl) (by kernel_rfl) (by kernel_rfl) (by kernel_rfl) (by kernel_rfl) (fun _ _ _ h => h) (by rfl) hHeld ?_ ?_
              rotate_left
              · (intro w hSw; (try dsimp only at hSw); go_simp; (try with_reducible rfl))
              try simp only [Act.put, List.setIfInBounds_toArray, List.set_cons_zero, List.set_cons_succ]
              refine Mq.T_two 6 14 (by kernel_rfl) (by kernel_rfl) (by kernel_rfl) rfl rfl (fun K hK => ?_) (fun K hK => ?_)
              · refine step_append_sli0 (by rfl) _ _ _ (by rfl) wr.heap.size 57 im _ 48 Tryd.underlying30 IM.out IM0.out IM1.out IM2.out rfl (by omega) (by rfl) A1 c1 l1 (by rfl) (SL1.out _ _ (MS.out _ (BD.out))) mpc_len mpc_one (by unfold maxLen; omega) (by omega) (by have := (BD.out).size; first | omega | (simp at this ⊢; omega)) ?_
                intro A6 c6 w6 ho6 hb6
                have O6 := Lib.hid ho6
                have B6 := Lib.hid (Below.trans (BD.out) (hb6.mono (BD.out).size))
                clear ho6 hb6
                refine hK.out _ _ ?_ (fun hHeld2 => ?_)
                · exact gb_cells2 (gb_blk B6.out T7.out l7)
                clear hK K hHeld
                have hHeld := hHeld2
                clear hHeld2
                try simp only [Act.put, List.setIfInBounds_toArray, List.set_cons_zero, List.set_cons_succ]
                refine Mq.T_two 12 14 (by kernel_rfl) (by kernel_rfl) (by kernel_rfl) rfl rfl (fun K hK => ?_) (fun K hK => ?_)
                · refine step_append_sli (by rfl) _ _ _ (by rfl) wr.heap.size 57 im _ 48 Tryd.underlying30 IM.out IM0.out IM1.out IM2.out rfl (by omega) (.slice A6 l1.length c6) l1.length (l1.flatMap mpc) (by rfl) (O6.out) A2 c2 l2 (by rfl) (SL2.out _ _ (MS.out _ (B6.out))) mpc_len mpc_one (by unfold maxLen; omega) (by omega) (by have := (B6.out).size; first | omega | (simp at this ⊢; omega)) ?_
                  intro A8 c8 w8 ho8 hg8 hat8
                  have O8 := Lib.hid ho8
                  have B8 := Lib.hid (ow_grown (B6.out) hg8 (O6.out) (by have := (B6.out).size; first | omega | (simp at this ⊢; omega)))
                  clear ho8 hg8 hat8
                  refine hK.out _ _ ?_ (fun hHeld2 => ?_)
                  · exact gb_cells2 (gb_blk B8.out T7.out l7)
                  clear hK K hHeld
                  have hHeld := hHeld2
                  clear hHeld2
                  try simp only [Act.put, List.setIfInBounds_toArray, List.set_cons_zero, List.set_cons_succ]
                  refine Mq.T_take 13 (v := ?_) rfl (by kernel_rfl) (by kernel_rfl) (by kernel_rfl) (by kernel_rfl) (by kernel_rfl) (by kernel_rfl) (by kernel_rfl) (fun _ _ _ h => h) (by rfl) hHeld ?_ ?_
                  rotate_left
                  · (intro w hSw; (try dsimp only at hSw); go_simp; (try with_reducible rfl))
                  try simp only [Act.put, List.setIfInBounds_toArray, List.set_cons_zero, List.set_cons_succ]
                  refine Mq.T_step 14 (by kernel_rfl) (by kernel_rfl) rfl (fun K hK => ?_)
                  go_simp
                  have B14 := Lib.hid (Below.alloc (B8.out) (B8.out).size (.cells #[.slice none 0 0, .slice none 0 0] 33))
                  have X14 := Lib.hid (gb_new w8 (.cells #[.slice none 0 0, .slice none 0 0] 33))
                  have O14 := Lib.hid (ow_alloc (O8.out) (.cells #[.slice none 0 0, .slice none 0 0] 33))
                  obtain ⟨xb, hxb⟩ : ∃ n, n = (w8).heap.size := ⟨_, rfl⟩
                  rw [← hxb] at X14 ⊢
                  have hxl : wr.heap.size ≤ xb := by rw [hxb]; exact (B8.out).size
                  clear hxb
                  generalize (w8).alloc (.cells #[.slice none 0 0, .slice none 0 0] 33) = w14 at *
                  refine hK.out _ _ ?_ (fun hHeld2 => ?_)
                  · exact gb_cells2 (gb_blk B14.out T7.out l7)
                  clear hK K hHeld
                  have hHeld := hHeld2
                  clear hHeld2
                  try simp only [Act.put, List.setIfInBounds_toArray, List.set_cons_zero, List.set_cons_succ]
                  obtain ⟨x0, x1⟩ := gb_cells2 (X14.out)
                  have f0 := gb_free (X14.out) 0
                  have f1 := gb_free (X14.out) 1
                  refine Mq.T_last (by kernel_rfl) rfl (fun K hK => ?_)
                  go_simp
                  refine hK.out _ _ ?_
                  clear hK K hHeld
                  try simp only [Act.put, List.setIfInBounds_toArray, List.set_cons_zero, List.set_cons_succ]
                  refine wpAny_done (by kernel_rfl) ?_ _
                  refine NoPanic.normal ?_
                  go_wp2_with fail
                  go_meet
                  have x2 := gb_set (gb_set (X14.out) 0 (.slice A8 (l1.length + l2.length) c8)) 1 (.slice c.rts.A c.rts.l.length c.rts.cap)
                  refine ⟨xb, A8, c8, rfl, hxl, Lib.hid (by simpa using x2), Lib.hid (own_store (own_store (O14.out) (X14.out) (by decide) 0 _) (gb_set (X14.out) 0 _) (by decide) 1 _), Lib.hid (Below.setCell (Below.setCell (B14.out) hxl _) hxl _)⟩
                · go_simp
                  have B14 := Lib.hid (Below.alloc (B6.out) (B6.out).size (.cells #[.slice none 0 0, .slice none 0 0] 33))
                  have X14 := Lib.hid (gb_new w6 (.cells #[.slice none 0 0, .slice none 0 0] 33))
                  have O14 := Lib.hid (ow_alloc (O6.out) (.cells #[.slice none 0 0, .slice none 0 0] 33))
                  obtain ⟨xb, hxb⟩ : ∃ n, n = (w6).heap.size := ⟨_, rfl⟩
                  rw [← hxb] at X14 ⊢
                  have hxl : wr.heap.size ≤ xb := by rw [hxb]; exact (B6.out).size
                  clear hxb
                  generalize (w6).alloc (.cells #[.slice none 0 0, .slice none 0 0] 33) = w14 at *
                  refine hK.out _ _ ?_ (fun hHeld2 => ?_)
                  · exact gb_cells2 (gb_blk B14.out T7.out l7)
                  clear hK K hHeld
                  have hHeld := hHeld2
                  clear hHeld2
                  try simp only [Act.put, List.setIfInBounds_toArray, List.set_cons_zero, List.set_cons_succ]
                  refine Mq.T_step 12 (by kernel_rfl) (by kernel_rfl) rfl (fun K hK => ?_)
                  refine step_append_sli (by rfl) _ _ _ (by rfl) wr.heap.size 57 im _ 48 Tryd.underlying30 IM.out IM0.out IM1.out IM2.out rfl (by omega) (.slice A6 l1.length c6) l1.length (l1.flatMap mpc) (by rfl) (O14.out) A2 c2 l2 (by rfl) (SL2.out _ _ (MS.out _ (B14.out))) mpc_len mpc_one (by unfold maxLen; omega) (by omega) (by have := (B14.out).size; first | omega | (simp at this ⊢; omega)) ?_
                  intro A8 c8 w8 ho8 hg8 hat8
                  have O8 := Lib.hid ho8
                  have B8 := Lib.hid (ow_grown (B14.out) hg8 (O14.out) (by have := (B14.out).size; first | omega | (simp at this ⊢; omega)))
                  have X8 := Lib.hid (blk_grown (X14.out) (O14.out) (by decide) hg8)
                  clear ho8 hg8 hat8
                  refine hK.out _ _ ?_ (fun hHeld2 => ?_)
                  · exact gb_cells2 (gb_blk B8.out T7.out l7)
                  clear hK K hHeld
                  have hHeld := hHeld2
                  clear hHeld2
                  try simp only [Act.put, List.setIfInBounds_toArray, List.set_cons_zero, List.set_cons_succ]
                  refine Mq.T_take 13 (v := ?_) rfl (by kernel_rfl) (by kernel_rfl) (by kernel_rfl) (by kernel_rfl) (by kernel_rfl) (by kernel_rfl) (by kernel_rfl) (fun _ _ _ h => h) (by rfl) hHeld ?_ ?_
                  rotate_left
                  · (intro w hSw; (try dsimp only at hSw); go_simp; (try with_reducible rfl))
                  try simp only [Act.put, List.setIfInBounds_toArray, List.set_cons_zero, List.set_cons_succ]
                  obtain ⟨x0, x1⟩ := gb_cells2 (X8.out)
                  have f0 := gb_free (X8.out) 0
                  have f1 := gb_free (X8.out) 1
                  refine Mq.T_last (by kernel_rfl) rfl (fun K hK => ?_)
                  go_simp
                  refine hK.out _ _ ?_
                  clear hK K hHeld
                  try simp only [Act.put, List.setIfInBounds_toArray, List.set_cons_zero, List.set_cons_succ]
                  refine wpAny_done (by kernel_rfl) ?_ _
                  refine NoPanic.normal ?_
                  go_wp2_with fail
                  go_meet
                  have x2 := gb_set (gb_set (X8.out) 0 (.slice A8 (l1.length + l2.length) c8)) 1 (.slice c.rts.A c.rts.l.length c.rts.cap)
                  refine ⟨xb, A8, c8, rfl, hxl, Lib.hid (by simpa using x2), Lib.hid (own_store (own_store (O8.out) (X8.out) (by decide) 0 _) (gb_set (X8.out) 0 _) (by decide) 1 _), Lib.hid (Below.setCell (Below.setCell (B8.out) hxl _) hxl _)⟩
              · go_simp
                have B14 := Lib.hid (Below.alloc (BD.out) (BD.out).size (.cells #[.slice none 0 0, .slice none 0 0] 33))
                have X14 := Lib.hid (gb_new wd (.cells #[.slice none 0 0, .slice none 0 0] 33))
                obtain ⟨xb, hxb⟩ : ∃ n, n = (wd).heap.size := ⟨_, rfl⟩
                rw [← hxb] at X14 ⊢
                have hxl : wr.heap.size ≤ xb := by rw [hxb]; exact (BD.out).size
                clear hxb
                generalize (wd).alloc (.cells #[.slice none 0 0, .slice none 0 0] 33) = w14 at *
                refine hK.out _ _ ?_ (fun hHeld2 => ?_)
                · exact gb_cells2 (gb_blk B14.out T7.out l7)
                clear hK K hHeld
                have hHeld := hHeld2
                clear hHeld2
                try simp only [Act.put, List.setIfInBounds_toArray, List.set_cons_zero, List.set_cons_succ]
                refine Mq.T_step 6 (by kernel_rfl) (by kernel_rfl) rfl (fun K hK => ?_)
                refine step_append_sli0 (by rfl) _ _ _ (by rfl) wr.heap.size 57 im _ 48 Tryd.underlying30 IM.out IM0.out IM1.out IM2.out rfl (by omega) (by rfl) A1 c1 l1 (by rfl) (SL1.out _ _ (MS.out _ (B14.out))) mpc_len mpc_one (by unfold maxLen; omega) (by omega) (by have := (B14.out).size; first | omega | (simp at this ⊢; omega)) ?_
                intro A6 c6 w6 ho6 hb6
                have O6 := Lib.hid ho6
                have B6 := Lib.hid (Below.trans (B14.out) (hb6.mono (B14.out).size))
                have X6 := Lib.hid (gb_blk hb6 X14.out (gb_lt (X14.out)))
                clear ho6 hb6
                refine hK.out _ _ ?_ (fun hHeld2 => ?_)
                · exact gb_cells2 (gb_blk B6.out T7.out l7)
                clear hK K hHeld
                have hHeld := hHeld2
                clear hHeld2
                try simp only [Act.put, List.setIfInBounds_toArray, List.set_cons_zero, List.set_cons_succ]
                refine Mq.T_step 12 (by kernel_rfl) (by kernel_rfl) rfl (fun K hK => ?_)
                refine step_append_sli (by rfl) _ _ _ (by rfl) wr.heap.size 57 im _ 48 Tryd.underlying30 IM.out IM0.out IM1.out IM2.out rfl (by omega) (.slice A6 l1.length c6) l1.length (l1.flatMap mpc) (by rfl) (O6.out) A2 c2 l2 (by rfl) (SL2.out _ _ (MS.out _ (B6.out))) mpc_len mpc_one (by unfold maxLen; omega) (by omega) (by have := (B6.out).size; first | omega | (simp at this ⊢; omega)) ?_
                intro A8 c8 w8 ho8 hg8 hat8
                have O8 := Lib.hid ho8
                have B8 := Lib.hid (ow_grown (B6.out) hg8 (O6.out) (by have := (B6.out).size; first | omega | (simp at this ⊢; omega)))
                have X8 := Lib.hid (blk_grown (X6.out) (O6.out) (by decide) hg8)
                clear ho8 hg8 hat8
                refine hK.out _ _ ?_ (fun hHeld2 => ?_)
                · exact gb_cells2 (gb_blk B8.out T7.out l7)
                clear hK K hHeld
                have hHeld := hHeld2
                clear hHeld2
                try simp only [Act.put, List.setIfInBounds_toArray, List.set_cons_zero, List.set_cons_succ]
                refine Mq.T_take 13 (v := ?_) rfl (by kernel_rfl) (by kernel_rfl) (by kernel_rfl) (by kernel_rfl) (by kernel_rfl) (by kernel_rfl) (by kernel_rfl) (fun _ _ _ h => h) (by rfl) hHeld ?_ ?_
                rotate_left
                · (intro w hSw; (try dsimp only at hSw); go_simp; (try with_reducible rfl))
                try simp only [Act.put, List.setIfInBounds_toArray, List.set_cons_zero, List.set_cons_succ]
                obtain ⟨x0, x1⟩ := gb_cells2 (X8.out)
                have f0 := gb_free (X8.out) 0
                have f1 := gb_free (X8.out) 1
                refine Mq.T_last (by kernel_rfl) rfl (fun K hK => ?_)
                go_simp
                refine hK.out _ _ ?_
                clear hK K hHeld
                try simp only [Act.put, List.setIfInBounds_toArray, List.set_cons_zero, List.set_cons_succ]
                refine wpAny_done (by kernel_rfl) ?_ _
                refine NoPanic.normal ?_
                go_wp2_with fail
                go_meet
                have x2 := gb_set (gb_set (X8.out) 0 (.slice A8 (l1.length + l2.length) c8)) 1 (.slice c.rts.A c.rts.l.length c.rts.cap)
                refine ⟨xb, A8, c8, rfl, hxl, Lib.hid (by simpa using x2), Lib.hid (own_store (own_store (O8.out) (X8.out) (by decide) 0 _) (gb_set (X8.out) 0 _) (by decide) 1 _), Lib.hid (Below.setCell (Below.setCell (B8.out) hxl _) hxl _)⟩
            case rest =>
              obtain ⟨xb, Al, cl, rfl, hxb, XL, OL, HBL⟩ := hcut
              have BF := Lib.hid (gb_trans B2.out (show Below w2.heap.size w2 _ by have := B3.out; rw [HQ.out] at this; exact this.trans ((HB4.out.trans (HBL.out.mono HB4.out.size)).mono (by have := HQ.out; omega))))
              have CC := Lib.hid (less_config OL.out (HC3.out.below (HB4.out.trans (HBL.out.mono HB4.out.size))))
              have HL := Lib.hid (less_bad HP.out HM.out (A := Al) (cp := cl))
              rw [← HL1.out, ← HL2.out, ← HN.out] at HL
              obtain ⟨x0, x1⟩ := gb_cells2 XL.out
              clear hs1 hs2
              cases bb with
              | true =>
                obtain ⟨q, hq⟩ := HL.out.2 rfl
                have HE : Hid (errP (cfgBad ⟨⟨Al, cl, l1 ++ l2⟩, c.rts⟩) = .iface 82 (.agg #[.int .i64 3, .int .i64 q])) := Lib.hid (by rw [hq]; rfl)
                clear hq
                go_wp2_with fail
                refine CC.out.mono ?_
                rintro en w8 ⟨rfl, hb⟩
                rw [HE.out]
                have BG := Lib.hid (gb_trans BF.out hb)
                clear hb x0 x1
                go_wp2_with fail
                refine (number_fault 3 q _ (HG.out.below BG.out)).mono ?_
                rintro en w9 ⟨rfl, hb⟩
                have BH := Lib.hid (gb_trans BG.out hb)
                clear hb
                go_wp2_with fail
                go_ret
                exact ⟨rt_bool (by simp), BH.out⟩
              | false =>
                have HE : Hid (errP (cfgBad ⟨⟨Al, cl, l1 ++ l2⟩, c.rts⟩) = .nilIface) := Lib.hid (by rw [HL.out.1 rfl]; rfl)
                go_wp2_with fail
                refine CC.out.mono ?_
                rintro en w8 ⟨rfl, hb⟩
                rw [HE.out]
                have BG := Lib.hid (gb_trans BF.out hb)
                clear hb x0 x1
                go_wp2_with fail
                go_ret
                exact ⟨rt_bool (by simp), BG.out⟩
end Go.Proofs.YteciceelinbfoaaDoor
