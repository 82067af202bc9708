import Derived.Test.YteciceelinbfoaaDoorTu0
import Derived.Test.YteciceelinbfoaaDoorSh2
set_option linter.unusedVariables false
namespace Go.Proofs.YteciceelinbfoaaDoor
open Go.RowKit Mq

set_option maxRecDepth 100000 in
set_option maxHeartbeats 4000000 in
theorem turn_any (c : CfV) (h8 n8 N : Nat) (w : World) (hc : CfOk w c) (hbd : BdC N c) (hN : N ≤ 100) (hh8 : h8 < 256) (hn8 : n8 < 256) :
    Calls Tryd.prog 11 #[.agg #[.slice c.maps.A c.maps.l.length c.maps.cap, .slice c.rts.A c.rts.l.length c.rts.cap], .int .u8 h8, .int .u8 n8] w
      fun e w' => ∃ c' : CfV, e = .returned (.agg #[.slice c'.maps.A c'.maps.l.length c'.maps.cap, .slice c'.rts.A c'.rts.l.length c'.rts.cap]) ∧ CfOk w' c' ∧ BdC (2 * N + 1) c' ∧ Below w.heap.size w w' := by
  have HC := Lib.hid hc
  have HBD := Lib.hid hbd
  have hmN := hbd.maps
  have hrN := hbd.rts
  obtain ⟨im, him, hzim0, hzim1, hzim2⟩ := info_parts zmap
  have IM := Lib.hid him; have IM0 := Lib.hid hzim0; have IM1 := Lib.hid hzim1; have IM2 := Lib.hid hzim2
  clear him hzim0 hzim1 hzim2
  obtain ⟨ir, hir, hzir0, hzir1, hzir2⟩ := info_parts zrt
  have IR := Lib.hid hir; have IR0 := Lib.hid hzir0; have IR1 := Lib.hid hzir1; have IR2 := Lib.hid hzir2
  clear hir hzir0 hzir1 hzir2
  obtain ⟨il, hil, hzil0, hzil1, hzil2⟩ := info_parts zlk
  have IL := Lib.hid hil; have IL0 := Lib.hid hzil0; have IL1 := Lib.hid hzil1; have IL2 := Lib.hid hzil2
  clear hil hzil0 hzil1 hzil2
  obtain ⟨is, his, hzis0, hzis1, hzis2⟩ := info_parts zst
  have IS := Lib.hid his; have IS0 := Lib.hid hzis0; have IS1 := Lib.hid hzis1; have IS2 := Lib.hid hzis2
  clear his hzis0 hzis1 hzis2
  obtain ⟨ip, hip, hzip0, hzip1, hzip2⟩ := info_parts zpx
  have IP := Lib.hid hip; have IP0 := Lib.hid hzip0; have IP1 := Lib.hid hzip1; have IP2 := Lib.hid hzip2
  clear hip hzip0 hzip1 hzip2
  clear hc hbd
  go_enter Tryd.func11, Tryd.ntmps11
  go_upto_region 2 with fail
  have b0 := gb_old _ (.cells #[.slice none 0 0, .slice none 0 0] 33) (gb_old _ (.cells #[.slice none 0 0, .slice none 0 0] 33) (gb_new w (.cells #[.slice c.maps.A c.maps.l.length c.maps.cap, .slice c.rts.A c.rts.l.length c.rts.cap] 33)))
  have b1 := gb_old _ (.cells #[.slice none 0 0, .slice none 0 0] 33) (gb_new (w.alloc (.cells #[.slice c.maps.A c.maps.l.length c.maps.cap, .slice c.rts.A c.rts.l.length c.rts.cap] 33)) (.cells #[.slice none 0 0, .slice none 0 0] 33))
  have b2 := gb_new ((w.alloc (.cells #[.slice c.maps.A c.maps.l.length c.maps.cap, .slice c.rts.A c.rts.l.length c.rts.cap] 33)).alloc (.cells #[.slice none 0 0, .slice none 0 0] 33)) (.cells #[.slice none 0 0, .slice none 0 0] 33)
  simp only [World.size_alloc] at b1 b2
  have hB := gb_alloc (gb_alloc (gb_alloc (Below.refl w.heap.size w) (.cells #[.slice c.maps.A c.maps.l.length c.maps.cap, .slice c.rts.A c.rts.l.length c.rts.cap] 33)) (.cells #[.slice none 0 0, .slice none 0 0] 33)) (.cells #[.slice none 0 0, .slice none 0 0] 33)
  have hz : (((w.alloc (.cells #[.slice c.maps.A c.maps.l.length c.maps.cap, .slice c.rts.A c.rts.l.length c.rts.cap] 33)).alloc (.cells #[.slice none 0 0, .slice none 0 0] 33)).alloc (.cells #[.slice none 0 0, .slice none 0 0] 33)).heap.size = w.heap.size + 3 := by simp
  generalize ((w.alloc (.cells #[.slice c.maps.A c.maps.l.length c.maps.cap, .slice c.rts.A c.rts.l.length c.rts.cap] 33)).alloc (.cells #[.slice none 0 0, .slice none 0 0] 33)).alloc (.cells #[.slice none 0 0, .slice none 0 0] 33) = W0 at *
  obtain ⟨q3, hq3⟩ : ∃ n, n = w.heap.size := ⟨_, rfl⟩
  have hzz : W0.heap.size = q3 + 1 + 1 + 1 := by omega
  rw [← hq3] at b0 b1 b2 hB hz ⊢
  obtain ⟨B0, hB0⟩ : ∃ B0, B0 = q3 + 1 + 1 + 1 := ⟨_, rfl⟩
  rw [← hB0] at hzz
  have HQ := Lib.hid hq3
  have hB0l : q3 + 2 < B0 := by omega
  have HCw := Lib.hid (HC.out.below (by rw [hq3] at hB; exact hB))
  clear hq3 hz
  obtain ⟨y0, y1⟩ := gb_cells2 b0
  obtain ⟨z0, z1⟩ := gb_cells2 b2
  have D0 := Lib.hid hB
  have C0 := Lib.hid b0; have C1 := Lib.hid b1; have C2 := Lib.hid b2
  have f0 := gb_free b2 0
  clear b0 b1 b2 hB
  go_upto_region 3 with (first
    | (at_builtin; refine wpList_append_sli0 rfl _ _ _ rfl B0 57 im _ 48 Tryd.underlying30 IM.out IM0.out IM1.out IM2.out rfl (by omega) rfl c.maps.A c.maps.cap c.maps.l rfl (HCw.out.maps.at_) mpc_len mpc_one (by unfold maxLen; omega) (by omega) (by omega) ?_; intro Am cm w1 ho hb; have OM := Lib.hid ho; have HB1 := Lib.hid hb; have E0 := Lib.hid (gb_blk hb C0.out (gb_lt C0.out)); have E1 := Lib.hid (gb_blk hb C1.out (gb_lt C1.out)); have E2 := Lib.hid (gb_blk hb C2.out (gb_lt C2.out)); clear ho hb y0 y1 z0 z1 f0; obtain ⟨z0, z1⟩ := gb_cells2 E2.out; have f0 := gb_free E2.out 0)
    | fail)
  have e0 := gb_far E0.out (p := ⟨q3 + 1 + 1, 0, none⟩) (by simp; omega) (.slice Am c.maps.l.length cm)
  have e1 := gb_far E1.out (p := ⟨q3 + 1 + 1, 0, none⟩) (by simp) (.slice Am c.maps.l.length cm)
  have e2 : (w1.setCell ⟨q3 + 1 + 1, 0, none⟩ (.slice Am c.maps.l.length cm)).heap[q3 + 1 + 1]? = some (.cells #[.slice Am c.maps.l.length cm, .slice none 0 0] 33) := by simpa using gb_set E2.out 0 (.slice Am c.maps.l.length cm)
  have om := own_store OM.out E2.out (by decide) 0 (.slice Am c.maps.l.length cm)
  have hd := Below.setCell (p := ⟨q3 + 1 + 1, 0, none⟩) (D0.out.trans (HB1.out.mono (show q3 ≤ W0.heap.size by omega))) (by simp; omega) (.slice Am c.maps.l.length cm)
  have hsz : B0 ≤ (w1.setCell ⟨q3 + 1 + 1, 0, none⟩ (.slice Am c.maps.l.length cm)).heap.size := by have := HB1.out.size; simp; omega
  clear z0 z1 f0
  generalize w1.setCell ⟨q3 + 1 + 1, 0, none⟩ (.slice Am c.maps.l.length cm) = W1 at *
  have F0 := Lib.hid e0; have F1 := Lib.hid e1; have F2 := Lib.hid e2; have OM1 := Lib.hid om; have D1 := Lib.hid hd; have HZ := Lib.hid hsz
  clear e0 e1 e2 om hd hsz
  obtain ⟨y0, y1⟩ := gb_cells2 F0.out
  go_wp2_with fail
  clear y0 y1
  go_loopw [21] (fun j wr => ∃ (k : Nat) (rs : List RtV) (Ar : Option Addr) (cr : Nat), j = .int .i64 k ∧ k ≤ c.rts.l.length ∧ Hid (rs.length = k) ∧ Hid (∀ u ∈ rs, OwnRt wr B0 u ∧ RBd N u) ∧ Hid (rs.Pairwise RApart) ∧ Hid (wr.ownsRow B0 48 5 (.slice Ar rs.length cr) rs.length (rs.flatMap rtc)) ∧ Hid (wr.ownsRow B0 57 3 (.slice Am c.maps.l.length cm) c.maps.l.length (c.maps.l.flatMap mpc)) ∧ Hid (wr.heap[q3 + 1 + 1]? = some (.cells #[.slice Am c.maps.l.length cm, .slice Ar rs.length cr] 33)) ∧ Hid (wr.heap[q3 + 1]? = some (.cells #[.slice none 0 0, .slice none 0 0] 33)) ∧ Hid (Below q3 w wr) ∧ Hid (B0 ≤ wr.heap.size)) (fun j _ => c.rts.l.length - (intOf j).toNat)
  case atStart => exact ⟨0, [], none, 0, rfl, by omega, Lib.hid rfl, Lib.hid (by simp), Lib.hid List.Pairwise.nil, Lib.hid (World.ownsRow_nil W1 B0 48 5), OM1, F2, F1, D1, HZ⟩
  case round =>
    obtain ⟨k, rs, Ar, cr, rfl, hk, HRL, HOU, HPW, HOR, HOM, T7, T6, HB, HW⟩ := hrel
    have hwq : w.heap.size ≤ wr.heap.size := by have := HB.out.size; have := HQ.out; omega
    have HCr : Hid (CfOk wr c) := Lib.hid (HC.out.below (by have := HB.out; rwa [HQ.out] at this))
    have hrsN : rs.length ≤ N := by rw [HRL.out]; omega
    by_cases hlt : k < c.rts.l.length
    · obtain ⟨x, hx⟩ : ∃ x, c.rts.l[k]? = some x := ⟨_, List.getElem?_eq_getElem hlt⟩
      have HX := Lib.hid hx
      have hxbd := HBD.out.all x (List.mem_of_getElem? hx)
      have hnN := hxbd.nets
      have hlN := hxbd.links
      have hsN := hxbd.stats
      obtain ⟨b, off, hA, hbb, e0, e1, e2, e3, e4⟩ := rts_get HCr.out.rts.at_ hx
      have HA := Lib.hid hA
      have hxo := HCr.out.rts.ok x (List.mem_of_getElem? hx)
      rw [hA]
      clear hx hA hxbd
      obtain ⟨p0, p1⟩ := gb_cells2 T7.out
      go_upto_region 6 with fail
      have x8 := gb_new wr (.cells #[.string x.name, .slice x.nets.A x.nets.l.length x.nets.cap, .slice x.links.A x.links.l.length x.links.cap, .slice x.stats.A x.stats.l.length x.stats.cap, .int .i64 x.at_] 48)
      have hb8 := gb_alloc (Below.refl wr.heap.size wr) (.cells #[.string x.name, .slice x.nets.A x.nets.l.length x.nets.cap, .slice x.links.A x.links.l.length x.links.cap, .slice x.stats.A x.stats.l.length x.stats.cap, .int .i64 x.at_] 48)
      have hs8 : (wr.alloc (.cells #[.string x.name, .slice x.nets.A x.nets.l.length x.nets.cap, .slice x.links.A x.links.l.length x.links.cap, .slice x.stats.A x.stats.l.length x.stats.cap, .int .i64 x.at_] 48)).heap.size = wr.heap.size + 1 := by simp
      obtain ⟨xb, hxb⟩ : ∃ n, n = wr.heap.size := ⟨_, rfl⟩
      have HXO : Hid (∀ w', Below xb wr w' → RtOk w' x) := Lib.hid fun w' hb => hxo.below (by rwa [hxb] at hb)
      have HXQ := Lib.hid hxb
      have HQB : Hid (∀ w', Below xb wr w' → Below wr.heap.size wr w') := Lib.hid fun w' hb => by rwa [hxb] at hb
      have HXE : Hid (wr.heap.size ≤ xb) := Lib.hid (by omega)
      have hxB0 : B0 ≤ xb := by have := HW.out; omega
      rw [← hxb] at x8 hb8 hs8 ⊢
      generalize wr.alloc (.cells #[.string x.name, .slice x.nets.A x.nets.l.length x.nets.cap, .slice x.links.A x.links.l.length x.links.cap, .slice x.stats.A x.stats.l.length x.stats.cap, .int .i64 x.at_] 48) = w2 at *
      clear e0 e1 e2 e3 e4 hxo hxb
      obtain ⟨z0, z1, z2, z3, z4⟩ := gb_cells5 x8
      have f4 := gb_free x8 4
      have ekk : IntKind.i64.wrap (100 + (k : Int)) = 100 + (k : Int) := by rw [IntKind.wrap_i64]; omega
      go_upto_region 7 with fail
      have x9 : (w2.setCell ⟨xb, 4, none⟩ (.int .i64 (100 + (k : Int)))).heap[xb]? = some (.cells #[.string x.name, .slice x.nets.A x.nets.l.length x.nets.cap, .slice x.links.A x.links.l.length x.links.cap, .slice x.stats.A x.stats.l.length x.stats.cap, .int .i64 (100 + (k : Int))] 48) := by simpa using gb_set x8 4 (.int .i64 (100 + (k : Int)))
      have hb9 := Below.setCell (p := ⟨xb, 4, none⟩) hb8 (Nat.le_refl _) (.int .i64 (100 + (k : Int)))
      have hs9 : xb < (w2.setCell ⟨xb, 4, none⟩ (.int .i64 (100 + (k : Int)))).heap.size := gb_lt x9
      generalize w2.setCell ⟨xb, 4, none⟩ (.int .i64 (100 + (k : Int))) = w3 at *
      clear z0 z1 z2 z3 z4 f4 ekk x8 hb8 hs8
      have X9 := Lib.hid x9
      have HB9 := Lib.hid hb9
      clear x9 hb9
      obtain ⟨z0, z1, z2, z3, z4⟩ := gb_cells5 X9.out
      have f2 := gb_free X9.out 2
      go_upto_region 8 with (first
        | (at_builtin; refine wpList_append_sli0 rfl _ _ _ rfl xb 50 il _ 64 Tryd.underlying45 IL.out IL0.out IL1.out IL2.out rfl (by omega) rfl x.links.A x.links.cap x.links.l rfl ((HXO.out _ HB9.out).links.at_) lkc_len lkc_one (by unfold maxLen; omega) (by omega) (by omega) ?_; intro Al cl w4 ho hb; have OL := Lib.hid ho; have X10 := Lib.hid (gb_blk hb X9.out hs9); have HB10 := Lib.hid (HB9.out.trans (hb.mono (show xb ≤ w3.heap.size by omega))); clear ho hb z0 z1 z2 z3 z4 f2; obtain ⟨z0, z1, z2, z3, z4⟩ := gb_cells5 X10.out; have f2 := gb_free X10.out 2)
        | fail)
      clear z0 z1 z2 z3 z4 f2
      have x11 : (w4.setCell ⟨xb, 2, none⟩ (.slice Al x.links.l.length cl)).heap[xb]? = some (.cells #[.string x.name, .slice x.nets.A x.nets.l.length x.nets.cap, .slice Al x.links.l.length cl, .slice x.stats.A x.stats.l.length x.stats.cap, .int .i64 (100 + (k : Int))] 48) := by simpa using gb_set X10.out 2 (.slice Al x.links.l.length cl)
      have hb11 := Below.setCell (p := ⟨xb, 2, none⟩) HB10.out (Nat.le_refl _) (.slice Al x.links.l.length cl)
      have ol11 := own_store OL.out X10.out (by decide) 2 (.slice Al x.links.l.length cl)
      generalize w4.setCell ⟨xb, 2, none⟩ (.slice Al x.links.l.length cl) = w5 at *
      have X11 := Lib.hid x11
      have HB11 := Lib.hid hb11
      have OL11 := Lib.hid ol11
      clear x11 hb11 ol11
      obtain ⟨z0, z1, z2, z3, z4⟩ := gb_cells5 X11.out
      go_wp2_with fail
      clear z0 z1 z2 z3 z4
      go_loopw [36] (fun j wr9 => ∃ (i : Nat) (ls : List LkV), j = .int .i64 i ∧ i ≤ x.links.l.length ∧ ls.length = x.links.l.length ∧ Hid (wr9.ownsRow xb 50 5 (.slice Al ls.length cl) ls.length (ls.flatMap lkc)) ∧ Hid (wr9.heap[xb]? = some (.cells #[.string x.name, .slice x.nets.A x.nets.l.length x.nets.cap, .slice Al ls.length cl, .slice x.stats.A x.stats.l.length x.stats.cap, .int .i64 (100 + (k : Int))] 48)) ∧ Hid (Below xb wr wr9)) (fun j _ => x.links.l.length - (intOf j).toNat)
      case atStart => exact ⟨0, x.links.l, rfl, by omega, rfl, OL11, X11, HB11⟩
      case round =>
        obtain ⟨i, ls, rfl, hi, hls, OLr, Xr, HBr⟩ := hrel
        have HLS := Lib.hid hls
        clear hls
        by_cases hlt2 : i < x.links.l.length
        · have hil : i < ls.length := by rw [HLS.out]; exact hlt2
          obtain ⟨y, hy⟩ : ∃ y, ls[i]? = some y := ⟨_, List.getElem?_eq_getElem hil⟩
          obtain ⟨g, cap', hsl, hxg, hg⟩ := OLr.out.form (by omega)
          injection hsl with hAl _ hcl
          have xr := Xr.out
          have olr := OLr.out
          have hne : xb ≠ g := by
            have := own_ne_blk olr xr (by decide)
            rw [hAl] at this
            intro h; apply this; rw [h]; rfl
          rw [hAl] at xr olr
          obtain ⟨cur, hcur⟩ := own_blk olr
          have c4 := own_cell lkc_len olr hy 4 (by omega)
          have c4' : wr.cell? ⟨g, i * 5 + 4, none⟩ = some (.int .i64 y.at_) := c4
          have fr := gb_free hcur (i * 5 + 4)
          obtain ⟨z0, z1, z2, z3, z4⟩ := gb_cells5 xr
          have ek1 : IntKind.i64.wrap (10 * (k : Int)) = 10 * (k : Int) := by rw [IntKind.wrap_i64]; omega
          have ek2 : IntKind.i64.wrap (200 + 10 * (k : Int)) = 200 + 10 * (k : Int) := by rw [IntKind.wrap_i64]; omega
          have ek3 : IntKind.i64.wrap (200 + 10 * (k : Int) + (i : Int)) = 200 + 10 * (k : Int) + (i : Int) := by rw [IntKind.wrap_i64]; omega
          have HY := Lib.hid hy
          have HAL := Lib.hid hAl
          have OLX := Lib.hid olr
          clear hAl hcl hcur c4 hy xr olr
          go_wp2_with fail
          go_roundw
          case rel =>
            have o2 := own_setE (a' := (⟨y.peer, y.cost, y.imp, y.exp, 200 + 10 * (k : Int) + (i : Int)⟩ : LkV)) (v := .int .i64 (200 + 10 * (k : Int) + (i : Int))) lkc_len OLX.out HY.out (show 4 < 5 by omega) rfl
            refine ⟨i + 1, ls.set i ⟨y.peer, y.cost, y.imp, y.exp, 200 + 10 * (k : Int) + (i : Int)⟩, by go_num, by omega, by rw [List.length_set]; exact HLS.out, Lib.hid (by rw [HAL.out]; exact o2), Lib.hid (by rw [List.length_set]; exact gb_far Xr.out hne _), Lib.hid (Below.setCell HBr.out hxg _)⟩
          case measure => simp [intOf] <;> omega
        · obtain rfl : x.links.l.length = i := by omega
          have hlsN : ls.length ≤ N := by rw [HLS.out]; exact hlN
          have hxs : xb < wr.heap.size := gb_lt Xr.out
          obtain ⟨z0, z1, z2, z3, z4⟩ := gb_cells5 Xr.out
          have fq := gb_free Xr.out 3
          go_upto_region 14 with (first
            | (at_builtin; refine wpList_append_sli0 rfl _ _ _ rfl xb 70 is _ 40 Tryd.underlying46 IS.out IS0.out IS1.out IS2.out rfl (by omega) rfl x.stats.A x.stats.cap x.stats.l rfl ((HXO.out _ HBr.out).stats.at_) stc_len stc_one (by unfold maxLen; omega) (by omega) (by omega) ?_; intro As cs w6 ho hb; have OSb := Lib.hid ho; have OLra := Lib.hid (ow_below OLr.out hb); have Xb := Lib.hid (gb_blk hb Xr.out (gb_lt Xr.out)); have HBb := Lib.hid (HBr.out.trans (hb.mono (Nat.le_of_lt (gb_lt Xr.out)))); clear ho hb z0 z1 z2 z3 z4 fq; obtain ⟨z0, z1, z2, z3, z4⟩ := gb_cells5 Xb.out; have fq := gb_free Xb.out 3)
            | fail)
          clear z0 z1 z2 z3 z4 fq
          have x1 : (w6.setCell ⟨xb, 3, none⟩ (.slice As x.stats.l.length cs)).heap[xb]? = some (.cells #[.string x.name, .slice x.nets.A x.nets.l.length x.nets.cap, .slice Al ls.length cl, .slice As x.stats.l.length cs, .int .i64 (100 + (k : Int))] 48) := by simpa using gb_set Xb.out 3 (.slice As x.stats.l.length cs)
          have h1 := Below.setCell (p := ⟨xb, 3, none⟩) HBb.out (Nat.le_refl _) (.slice As x.stats.l.length cs)
          have oOLr := own_store OLra.out Xb.out (by decide) 3 (.slice As x.stats.l.length cs)
          have oo := own_store OSb.out Xb.out (by decide) 3 (.slice As x.stats.l.length cs)
          generalize w6.setCell ⟨xb, 3, none⟩ (.slice As x.stats.l.length cs) = w7 at *
          clear Xb HBb OSb OLra
          have X13 := Lib.hid x1
          have HB13 := Lib.hid h1
          replace OLr := Lib.hid oOLr
          have OS := Lib.hid oo
          clear x1 h1 oo oOLr
          have hxs : xb < w7.heap.size := gb_lt X13.out
          clear Xr HBr
          obtain ⟨z0, z1, z2, z3, z4⟩ := gb_cells5 X13.out
          have fq := gb_free X13.out 1
          go_upto_region 15 with (first
            | (at_builtin; refine wpList_append_sli0 rfl _ _ _ rfl xb 66 ip _ 16 Tryd.underlying44 IP.out IP0.out IP1.out IP2.out rfl (by omega) rfl x.nets.A x.nets.cap x.nets.l rfl ((HXO.out _ HB13.out).nets.at_) pfc_len pfc_one (by unfold maxLen; omega) (by omega) (by omega) ?_; intro An cn w6 ho hb; have OPb := Lib.hid ho; have OLra := Lib.hid (ow_below OLr.out hb); have OSa := Lib.hid (ow_below OS.out hb); have Xb := Lib.hid (gb_blk hb X13.out (gb_lt X13.out)); have HBb := Lib.hid (HB13.out.trans (hb.mono (Nat.le_of_lt (gb_lt X13.out)))); clear ho hb z0 z1 z2 z3 z4 fq; obtain ⟨z0, z1, z2, z3, z4⟩ := gb_cells5 Xb.out; have fq := gb_free Xb.out 1)
            | fail)
          clear z0 z1 z2 z3 z4 fq
          have x1 : (w6.setCell ⟨xb, 1, none⟩ (.slice An x.nets.l.length cn)).heap[xb]? = some (.cells #[.string x.name, .slice An x.nets.l.length cn, .slice Al ls.length cl, .slice As x.stats.l.length cs, .int .i64 (100 + (k : Int))] 48) := by simpa using gb_set Xb.out 1 (.slice An x.nets.l.length cn)
          have h1 := Below.setCell (p := ⟨xb, 1, none⟩) HBb.out (Nat.le_refl _) (.slice An x.nets.l.length cn)
          have oOLr := own_store OLra.out Xb.out (by decide) 1 (.slice An x.nets.l.length cn)
          have oOS := own_store OSa.out Xb.out (by decide) 1 (.slice An x.nets.l.length cn)
          have oo := own_store OPb.out Xb.out (by decide) 1 (.slice An x.nets.l.length cn)
          generalize w6.setCell ⟨xb, 1, none⟩ (.slice An x.nets.l.length cn) = w7 at *
          clear Xb HBb OPb OLra OSa
          have X14 := Lib.hid x1
          have HB14 := Lib.hid h1
          replace OLr := Lib.hid oOLr
          replace OS := Lib.hid oOS
          have OP := Lib.hid oo
          clear x1 h1 oo oOLr oOS
          clear X13 HB13
          have U7 := Lib.hid (gb_blk HB14.out T7.out (by omega))
          have U6 := Lib.hid (gb_blk HB14.out T6.out (by omega))
          have UR := Lib.hid (ow_below HOR.out (HQB.out _ HB14.out))
          have UM := Lib.hid (ow_below HOM.out (HQB.out _ HB14.out))
          have hxs : xb < w7.heap.size := gb_lt X14.out
          obtain ⟨z0, z1, z2, z3, z4⟩ := gb_cells5 X14.out
          obtain ⟨q0, q1⟩ := gb_cells2 U7.out
          have fq := gb_free U7.out 1
          go_wp2_with (first
            | (at_builtin; refine wpList_append_lies _ rfl _ _ _ rfl B0 48 ir _ 5 96 Tryd.underlying31 IR.out IR0.out IR1.out IR2.out rfl (by omega) (.slice Ar rs.length cr) rs.length (rs.flatMap rtc) rfl (ow_alloc UR.out _) ⟨w7.heap.size, 0, none⟩ 1 1 [.string x.name, .slice An x.nets.l.length cn, .slice Al ls.length cl, .slice As x.stats.l.length cs, .int .i64 (100 + (k : Int))] rfl rfl (World.news_of_block (cs := ([.string x.name, .slice An x.nets.l.length cn, .slice Al ls.length cl, .slice As x.stats.l.length cs, .int .i64 (100 + (k : Int))]).toArray) (heap_alloc_new w7 _)) (by intro u hu; simp at hu; rcases hu with rfl | rfl | rfl | rfl | rfl <;> rfl) (by omega) (by unfold maxLen; omega) (by omega) (by simp; omega) (w7.heap.size + 1) (by simp) ?_; intro g cap' w9 hown9 hgrow hat hlt9; have O9 := Lib.hid hown9; have G9 := Lib.hid hgrow; have T9 := Lib.hid (blk_grown (gb_old w7 _ U7.out) (ow_alloc UR.out _) (by decide) hgrow); have S9 := Lib.hid (blk_grown (gb_old w7 _ U6.out) (ow_alloc UR.out _) (by decide) hgrow); obtain ⟨q0, q1⟩ := gb_cells2 T9.out; have fq := gb_free T9.out 1; have l9 := gb_lt T9.out; clear hown9 hgrow hat hlt9)
            | fail)
          clear q0 q1 z0 z1 z2 z3 z4 fq
          go_roundw
          case measure => simp [intOf] <;> omega
          case rel =>
            have g9 := G9.out
            have hz9 := g9.size
            simp only [World.size_alloc] at hz9
            have o9 := O9.out
            have hu : [.string x.name, .slice An x.nets.l.length cn, .slice Al ls.length cl, .slice As x.stats.l.length cs, .int .i64 (100 + (k : Int))] = rtc (⟨x.name, ⟨An, cn, x.nets.l⟩, ⟨Al, cl, ls⟩, ⟨As, cs, x.stats.l⟩, 100 + (k : Int)⟩ : RtV) := rfl
            rw [hu] at o9
            have o10 := own_store (own_snoc (enc := rtc) o9) T9.out (by decide) 1 (.slice (some ⟨g, 0, none⟩) (rs.length + 1) cap')
            have m10 := own_store (own_grown (ow_alloc UM.out _) (ow_alloc UR.out _) (by decide) g9) T9.out (by decide) 1 (.slice (some ⟨g, 0, none⟩) (rs.length + 1) cap')
            have hnew : OwnRt w7 xb (⟨x.name, ⟨An, cn, x.nets.l⟩, ⟨Al, cl, ls⟩, ⟨As, cs, x.stats.l⟩, 100 + (k : Int)⟩ : RtV) := ⟨OP.out, OLr.out, OS.out⟩
            have hb9 := ow_grown (Below.alloc (HB.out.trans (HB14.out.mono (show q3 ≤ _ by have := HXE.out; have := HW.out; omega))) (by omega) _) g9 (own_le UR.out (show q3 ≤ B0 by omega)) (by simp; omega)
            have mv : ∀ u : RtV, OwnRt w7 B0 u → OwnRt (w9.setCell ⟨q3 + 1 + 1, 1, none⟩ (.slice (some ⟨g, 0, none⟩) (rs.length + 1) cap')) B0 u := fun u hu => OwnRt.store (OwnRt.grown (hu.below (gb_alloc (Below.refl _ _) _)) (ow_alloc UR.out _) g9 (by decide)) T9.out 1 _ (by decide)
            refine ⟨k + 1, rs ++ [(⟨x.name, ⟨An, cn, x.nets.l⟩, ⟨Al, cl, ls⟩, ⟨As, cs, x.stats.l⟩, 100 + (k : Int)⟩ : RtV)], some ⟨g, 0, none⟩, cap', by go_num, by omega, Lib.hid (by rw [List.length_append, HRL.out]; rfl), Lib.hid ?_, Lib.hid ?_, Lib.hid o10, Lib.hid m10, Lib.hid (by simpa using gb_set T9.out 1 (.slice (some ⟨g, 0, none⟩) (rs.length + 1) cap')), Lib.hid (gb_far S9.out (p := ⟨q3 + 1 + 1, 1, none⟩) (by simp) _), Lib.hid (Below.setCell hb9 (by simp; omega) _), Lib.hid (by simp; omega)⟩
            · intro u hu
              rcases List.mem_append.1 hu with hu | hu
              · exact ⟨mv u ((HOU.out u hu).1.below (HQB.out _ HB14.out)), (HOU.out u hu).2⟩
              · rw [List.mem_singleton.1 hu]
                exact ⟨mv _ (hnew.le hxB0), ⟨hnN, hlsN, hsN⟩⟩
            · exact pw_snoc HPW.out fun v hv => apart_new (HOU.out v hv).1 hnew HXE.out
    · obtain rfl : c.rts.l.length = k := by omega
      obtain ⟨q0, q1⟩ := gb_cells2 T7.out
      by_cases h0 : rs.length = 0
      · obtain ⟨y0, y1⟩ := gb_cells2 T6.out
        have f0 := gb_free T6.out 0
        have f1 := gb_free T6.out 1
        have l6 := gb_lt T6.out
        have hg0 : rs.length ≤ 0 := by omega
        clear h0
        go_wp2_with fail
        clear q0 q1 y0 y1 f0 f1 hg0
        obtain ⟨t6, hcf, hbc, hbl⟩ := turn_fin (N := 2 * N + 1) (w := w) T6.out (by omega) HOM.out HOR.out (fun v hv => (HOU.out v hv).1.fin ((HOU.out v hv).2.le (by omega))) (by have := HQ.out; omega) (by have := HB.out; rwa [HQ.out] at this) (by omega) (by omega)
        generalize (wr.setCell ⟨q3 + 1, 0, none⟩ (.slice Am c.maps.l.length cm)).setCell ⟨q3 + 1, 1, none⟩ (.slice Ar rs.length cr) = wy at *
        obtain ⟨y0, y1⟩ := gb_cells2 t6
        refine bodyPost_ret (v := .agg #[.slice Am c.maps.l.length cm, .slice Ar rs.length cr]) (by simp [results, Tryd.results11, go_sem, y0, y1]) rfl ⟨⟨⟨Am, cm, c.maps.l⟩, ⟨Ar, cr, rs⟩⟩, rfl, hcf, hbc, hbl⟩
      · obtain ⟨gr, cap', hsl, hgB, hgl⟩ := HOR.out.form (by omega)
        injection hsl with hAr _ hcr
        subst hAr
        subst hcr
        obtain ⟨idx, hil, HI⟩ : ∃ idx, idx < rs.length ∧ Hid (idx = n8 % rs.length) := ⟨_, Nat.mod_lt _ (by omega), Lib.hid rfl⟩
        have hne : ((rs.length : Int) = 0) = False := eq_false (by omega)
        have ek4 : IntKind.i64.wrap (idx : Int) = (idx : Int) := by rw [IntKind.wrap_i64]; omega
        have ek0 : IntKind.i64.wrap (n8 : Int) = (n8 : Int) := by rw [IntKind.wrap_i64]; omega
        have ek1 : (n8 : Int) % (rs.length : Int) = (idx : Int) := by rw [HI.out]; exact (Int.natCast_emod _ _).symm
        have ek2 : (n8 : Int).tmod (rs.length : Int) = (idx : Int) := by rw [Int.tmod_eq_emod_of_nonneg (Int.natCast_nonneg n8), ek1]
        obtain ⟨u, hu⟩ : ∃ u, rs[idx]? = some u := ⟨_, List.getElem?_eq_getElem hil⟩
        obtain ⟨v0, hv0⟩ : ∃ u, rs[0]? = some u := ⟨_, List.getElem?_eq_getElem (by omega)⟩
        have HU := Lib.hid hu
        have HV0 := Lib.hid hv0
        have hub := (HOU.out u (List.mem_of_getElem? hu)).2
        have hun := hub.nets
        have hul := hub.links
        have hus := hub.stats
        clear hu hv0 hub
        go_upto_region 19 with fail
        go_quiet (fail)
        go_upto_region 20 with fail
        clear hne ek0 ek1 ek2 ek4 q0 q1
        have hBd := gb_drewN (Below.refl wr.heap.size wr) nq
        have S7 := Lib.hid (gb_blk hBd T7.out (gb_lt T7.out))
        have S6 := Lib.hid (gb_blk hBd T6.out (gb_lt T6.out))
        have SM := Lib.hid (ow_below HOM.out hBd)
        have SR := Lib.hid (ow_below HOR.out hBd)
        have SU := Lib.hid (fun v hv => (HOU.out v hv).1.below hBd)
        have SBD := Lib.hid (fun v hv => (HOU.out v hv).2)
        have SB := Lib.hid (HB.out.trans (hBd.mono (show q3 ≤ wr.heap.size by have := HW.out; omega)))
        have hgd : gr < (wr.drewN nq).heap.size := Nat.lt_of_lt_of_le hgl hBd.size
        generalize wr.drewN nq = wd at *
        clear hBd T7 T6 HOM HOR HOU HB HW hgl
        obtain ⟨cur, hcur⟩ := own_blk SR.out
        have CUR := Lib.hid hcur
        have c0 : wd.cell? ⟨gr, idx * 5, none⟩ = some (.string u.name) := own_cell rtc_len SR.out HU.out 0 (by omega)
        have c1 : wd.cell? ⟨gr, idx * 5 + 1, none⟩ = some (.slice u.nets.A u.nets.l.length u.nets.cap) := own_cell rtc_len SR.out HU.out 1 (by omega)
        have c2 : wd.cell? ⟨gr, idx * 5 + 2, none⟩ = some (.slice u.links.A u.links.l.length u.links.cap) := own_cell rtc_len SR.out HU.out 2 (by omega)
        have c3 : wd.cell? ⟨gr, idx * 5 + 3, none⟩ = some (.slice u.stats.A u.stats.l.length u.stats.cap) := own_cell rtc_len SR.out HU.out 3 (by omega)
        have d0 : wd.cell? ⟨gr, 0, none⟩ = some (.string v0.name) := by simpa [rtc] using own_cell rtc_len SR.out HV0.out 0 (by omega)
        have fr := gb_free hcur
        clear hcur
        obtain ⟨q0, q1⟩ := gb_cells2 S7.out
        have hus2 : Hid (OwnRt wd B0 u) := Lib.hid (SU.out u (List.mem_of_getElem? HU.out))
        obtain ⟨m, hm8, HM⟩ : ∃ m, m < 8 ∧ Hid (m = h8 % 8) := ⟨_, Nat.mod_lt _ (by omega), Lib.hid rfl⟩
        have hmm : m = 0 ∨ m = 1 ∨ m = 2 ∨ m = 3 ∨ m = 4 ∨ m = 5 ∨ m = 6 ∨ m = 7 := by omega
        rcases hmm with rfl | rfl | rfl | rfl | rfl | rfl | rfl | rfl
        · have em : (h8 : Int).tmod 8 = 0 := by rw [Int.tmod_eq_emod_of_nonneg (Int.natCast_nonneg h8)]; have := HM.out; omega
          have em2 : IntKind.u8.wrap (0 : Int) = 0 := by decide
          have fq := fr (idx * 5)
          go_upto_region 38 with fail
          clear em em2 c0 c1 c2 c3 d0 fr fq q0 q1
          have t7 := gb_far S7.out (p := ⟨gr, idx * 5, none⟩) (show q3 + 1 + 1 ≠ gr by omega) (.string v0.name)
          have t6 := gb_far S6.out (p := ⟨gr, idx * 5, none⟩) (show q3 + 1 ≠ gr by omega) (.string v0.name)
          have om := own_store SM.out CUR.out (by decide) (idx * 5) (.string v0.name)
          obtain ⟨u', hu'⟩ : ∃ u' : RtV, u' = ⟨v0.name, u.nets, u.links, u.stats, u.at_⟩ := ⟨_, rfl⟩
          have orr : (wd.setCell ⟨gr, idx * 5, none⟩ (.string v0.name)).ownsRow B0 48 5 (.slice (some ⟨gr, 0, none⟩) (rs.set idx u').length cr) (rs.set idx u').length ((rs.set idx u').flatMap rtc) := own_setE rtc_len SR.out HU.out (show 0 < 5 by omega) (by rw [hu']; first | rfl | simp [rtc])
          have hfu : FinOk (wd.setCell ⟨gr, idx * 5, none⟩ (.string v0.name)) B0 (2 * N + 1) u' := by
            rw [hu']
            exact (let h := hus2.out.store CUR.out (idx * 5) (.string v0.name) (by decide); OwnRt.fin (u := ⟨v0.name, u.nets, u.links, u.stats, u.at_⟩) ⟨h.nets, h.links, h.stats⟩ ⟨by simp only; omega, by simp only; omega, by simp only; omega⟩)
          have hall : ∀ v ∈ rs.set idx u', FinOk (wd.setCell ⟨gr, idx * 5, none⟩ (.string v0.name)) B0 (2 * N + 1) v := set_all (fun j v hj hne => (((fun (j : Nat) (v : RtV) (hj : rs[j]? = some v) (_ : j ≠ idx) => SU.out v (List.mem_of_getElem? hj)) j v hj hne).store CUR.out (idx * 5) (.string v0.name) (by decide)).fin ((SBD.out v (List.mem_of_getElem? hj)).le (by omega))) hfu
          have hbb : Below q3 w (wd.setCell ⟨gr, idx * 5, none⟩ (.string v0.name)) := Below.setCell SB.out (show q3 ≤ gr by omega) (.string v0.name)
          obtain ⟨rs', hrs', hlen⟩ : ∃ rs', rs' = rs.set idx u' ∧ rs'.length = rs.length := ⟨_, rfl, List.length_set⟩
          rw [← hrs'] at orr hall
          rw [← hlen] at t7
          have hlN : rs'.length ≤ N := by omega
          generalize wd.setCell ⟨gr, idx * 5, none⟩ (.string v0.name) = wz at *
          have Z7 := Lib.hid t7; have Z6 := Lib.hid t6; have ZM := Lib.hid om; have ZR := Lib.hid orr; have ZU := Lib.hid hall; have ZB := Lib.hid hbb
          clear t7 t6 om orr hall hbb hfu hu' hrs' hlen
          obtain ⟨q0, q1⟩ := gb_cells2 Z7.out
          obtain ⟨y0, y1⟩ := gb_cells2 Z6.out
          have f0 := gb_free Z6.out 0
          have f1 := gb_free Z6.out 1
          have l6 := gb_lt Z6.out
          go_wp2_with fail
          clear q0 q1 y0 y1 f0 f1
          obtain ⟨t6, hcf, hbc, hbl⟩ := turn_fin (N := 2 * N + 1) (w := w) Z6.out (by omega) ZM.out ZR.out ZU.out (by have := HQ.out; omega) (by have := ZB.out; rwa [HQ.out] at this) (by omega) (by omega)
          generalize (wz.setCell ⟨q3 + 1, 0, none⟩ (.slice Am c.maps.l.length cm)).setCell ⟨q3 + 1, 1, none⟩ (.slice (some ⟨gr, 0, none⟩) rs'.length cr) = wy at *
          obtain ⟨y0, y1⟩ := gb_cells2 t6
          refine bodyPost_ret (v := .agg #[.slice Am c.maps.l.length cm, .slice (some ⟨gr, 0, none⟩) rs'.length cr]) (by simp [results, Tryd.results11, go_sem, y0, y1]) rfl ⟨⟨⟨Am, cm, c.maps.l⟩, ⟨some ⟨gr, 0, none⟩, cr, rs'⟩⟩, rfl, hcf, hbc, hbl⟩
        · have em : (h8 : Int).tmod 8 = 1 := by rw [Int.tmod_eq_emod_of_nonneg (Int.natCast_nonneg h8)]; have := HM.out; omega
          have em2 : IntKind.u8.wrap (1 : Int) = 1 := by decide
          by_cases hl0 : u.links.l.length = 0
          · have hg : u.links.l.length ≤ 0 := by omega
            clear hl0
            go_upto_region 38 with fail
            clear em em2 c0 c1 c2 c3 d0 fr q0 q1 hg
            obtain ⟨q0, q1⟩ := gb_cells2 S7.out
            obtain ⟨y0, y1⟩ := gb_cells2 S6.out
            have f0 := gb_free S6.out 0
            have f1 := gb_free S6.out 1
            have l6 := gb_lt S6.out
            go_wp2_with fail
            clear q0 q1 y0 y1 f0 f1
            obtain ⟨t6, hcf, hbc, hbl⟩ := turn_fin (N := 2 * N + 1) (w := w) S6.out (by omega) SM.out SR.out (fun v hv => (SU.out v hv).fin ((SBD.out v hv).le (by omega))) (by have := HQ.out; omega) (by have := SB.out; rwa [HQ.out] at this) (by omega) (by omega)
            generalize (wd.setCell ⟨q3 + 1, 0, none⟩ (.slice Am c.maps.l.length cm)).setCell ⟨q3 + 1, 1, none⟩ (.slice (some ⟨gr, 0, none⟩) rs.length cr) = wy at *
            obtain ⟨y0, y1⟩ := gb_cells2 t6
            refine bodyPost_ret (v := .agg #[.slice Am c.maps.l.length cm, .slice (some ⟨gr, 0, none⟩) rs.length cr]) (by simp [results, Tryd.results11, go_sem, y0, y1]) rfl ⟨⟨⟨Am, cm, c.maps.l⟩, ⟨some ⟨gr, 0, none⟩, cr, rs⟩⟩, rfl, hcf, hbc, hbl⟩
          · have hg2 : 0 < u.links.l.length := by omega
            obtain ⟨A1, cA, hs1, SL1, hc1, hc2, hbk⟩ := slice_lo2 (P := Tryd.prog) (enc := lkc) (size := 5) 45 50 Tryd.underlying45 u.links.A u.links.cap 1 u.links.l (by omega) (own_slok (Ok := fun _ _ => True) hus2.out.links lkc_len (by omega) (fun _ _ => trivial)).fits (by rw [IL.out, ← IL1.out]; rfl)
            obtain ⟨l1, hl1⟩ : ∃ l1, l1 = u.links.l.drop 1 := ⟨_, rfl⟩
            have hl1N : l1.length ≤ N := by rw [hl1, List.length_drop]; omega
            rw [← hl1] at hs1 hc1 SL1
            have HS2 := Lib.hid SL1
            have HBK := Lib.hid hbk
            clear hl1 SL1 hbk
            have hs1' : ∀ w, (Instr.slice 45 (.slice u.links.A u.links.l.length u.links.cap) (some (.int .i64 1)) none none).run Tryd.prog w = .ok (.slice A1 l1.length cA) w := hs1
            have fq := fr (idx * 5 + 2)
            clear hs1
            go_upto_region 38 with fail
            clear em em2 c0 c1 c2 c3 d0 fr fq q0 q1 hg2 hs1'
            have t7 := gb_far S7.out (p := ⟨gr, idx * 5 + 2, none⟩) (show q3 + 1 + 1 ≠ gr by omega) (.slice A1 l1.length cA)
            have t6 := gb_far S6.out (p := ⟨gr, idx * 5 + 2, none⟩) (show q3 + 1 ≠ gr by omega) (.slice A1 l1.length cA)
            have om := own_store SM.out CUR.out (by decide) (idx * 5 + 2) (.slice A1 l1.length cA)
            obtain ⟨u', hu'⟩ : ∃ u' : RtV, u' = ⟨u.name, u.nets, ⟨A1, cA, l1⟩, u.stats, u.at_⟩ := ⟨_, rfl⟩
            have orr : (wd.setCell ⟨gr, idx * 5 + 2, none⟩ (.slice A1 l1.length cA)).ownsRow B0 48 5 (.slice (some ⟨gr, 0, none⟩) (rs.set idx u').length cr) (rs.set idx u').length ((rs.set idx u').flatMap rtc) := own_setE rtc_len SR.out HU.out (show 2 < 5 by omega) (by rw [hu']; first | rfl | simp [rtc])
            have hfu : FinOk (wd.setCell ⟨gr, idx * 5 + 2, none⟩ (.slice A1 l1.length cA)) B0 (2 * N + 1) u' := by
              rw [hu']
              exact (by
                have h := hus2.out.store CUR.out (idx * 5 + 2) (.slice A1 l1.length cA) (by decide)
                have hf := h.fin (N := N) ⟨hun, hul, hus⟩
                refine ⟨⟨hf.ok.nets, ⟨HS2.out _ _ hf.ok.links.at_, fun _ _ => trivial, hc1, Nat.le_trans hc2 hf.ok.links.cap⟩, hf.ok.stats⟩, ⟨hf.in_.nets, fun b off hA hl => ?_, hf.in_.stats⟩, ⟨by simp only; omega, by simp only; omega, by simp only; omega⟩⟩
                obtain ⟨a, ha, hab⟩ := HBK.out b off hA
                have hge := own_ge hus2.out.links (b := b) (by rw [ha, ← hab]; rfl)
                exact hge)
            have hall : ∀ v ∈ rs.set idx u', FinOk (wd.setCell ⟨gr, idx * 5 + 2, none⟩ (.slice A1 l1.length cA)) B0 (2 * N + 1) v := set_all (fun j v hj hne => (((fun (j : Nat) (v : RtV) (hj : rs[j]? = some v) (_ : j ≠ idx) => SU.out v (List.mem_of_getElem? hj)) j v hj hne).store CUR.out (idx * 5 + 2) (.slice A1 l1.length cA) (by decide)).fin ((SBD.out v (List.mem_of_getElem? hj)).le (by omega))) hfu
            have hbb : Below q3 w (wd.setCell ⟨gr, idx * 5 + 2, none⟩ (.slice A1 l1.length cA)) := Below.setCell SB.out (show q3 ≤ gr by omega) (.slice A1 l1.length cA)
            obtain ⟨rs', hrs', hlen⟩ : ∃ rs', rs' = rs.set idx u' ∧ rs'.length = rs.length := ⟨_, rfl, List.length_set⟩
            rw [← hrs'] at orr hall
            rw [← hlen] at t7
            have hlN : rs'.length ≤ N := by omega
            generalize wd.setCell ⟨gr, idx * 5 + 2, none⟩ (.slice A1 l1.length cA) = wz at *
            have Z7 := Lib.hid t7; have Z6 := Lib.hid t6; have ZM := Lib.hid om; have ZR := Lib.hid orr; have ZU := Lib.hid hall; have ZB := Lib.hid hbb
            clear t7 t6 om orr hall hbb hfu hu' hrs' hlen
            obtain ⟨q0, q1⟩ := gb_cells2 Z7.out
            obtain ⟨y0, y1⟩ := gb_cells2 Z6.out
            have f0 := gb_free Z6.out 0
            have f1 := gb_free Z6.out 1
            have l6 := gb_lt Z6.out
            go_wp2_with fail
            clear q0 q1 y0 y1 f0 f1
            obtain ⟨t6, hcf, hbc, hbl⟩ := turn_fin (N := 2 * N + 1) (w := w) Z6.out (by omega) ZM.out ZR.out ZU.out (by have := HQ.out; omega) (by have := ZB.out; rwa [HQ.out] at this) (by omega) (by omega)
            generalize (wz.setCell ⟨q3 + 1, 0, none⟩ (.slice Am c.maps.l.length cm)).setCell ⟨q3 + 1, 1, none⟩ (.slice (some ⟨gr, 0, none⟩) rs'.length cr) = wy at *
            obtain ⟨y0, y1⟩ := gb_cells2 t6
            refine bodyPost_ret (v := .agg #[.slice Am c.maps.l.length cm, .slice (some ⟨gr, 0, none⟩) rs'.length cr]) (by simp [results, Tryd.results11, go_sem, y0, y1]) rfl ⟨⟨⟨Am, cm, c.maps.l⟩, ⟨some ⟨gr, 0, none⟩, cr, rs'⟩⟩, rfl, hcf, hbc, hbl⟩
        · have em : (h8 : Int).tmod 8 = 2 := by rw [Int.tmod_eq_emod_of_nonneg (Int.natCast_nonneg h8)]; have := HM.out; omega
          have em2 : IntKind.u8.wrap (2 : Int) = 2 := by decide
          go_upto_region 28 with fail
          have hbe := (Below.refl wd.heap.size wd).drew
          refine wp_region_noPanic ?_
          refine Mq.wp_region_T 14 (fun w' => w'.cell? ⟨gr, idx * 5, none⟩ = some (.string u.name) ∧ w'.cell? ⟨gr, idx * 5 + 2, none⟩ = some (.slice u.links.A u.links.l.length u.links.cap)) (by kernel_rfl) ?_ (fun hHeld => ?_)
          · exact ⟨c0, c2⟩
          generalize wd.drew = we at *
          refine Mq.T_take 0 (v := ?_) rfl (by kernel_rfl) (by kernel_rfl) (by kernel_rfl) (by kernel_rfl) (by kernel_rfl) (by kernel_rfl) (by kernel_rfl) (fun _ _ _ h => h) (by rfl) hHeld ?_ ?_
          rotate_left
          · (intro w hSw; (try dsimp only at hSw); go_simp; (try with_reducible rfl))
          try simp only [Act.put, List.setIfInBounds_toArray, List.set_cons_zero, List.set_cons_succ]
          refine Mq.T_take 1 (v := ?_) rfl (by kernel_rfl) (by kernel_rfl) (by kernel_rfl) (by kernel_rfl) (by kernel_rfl) (by kernel_rfl) (by kernel_rfl) (fun _ _ _ h => h) (by rfl) hHeld ?_ ?_
          rotate_left
          · (intro w hSw; (try dsimp only at hSw); go_simp; (try with_reducible rfl))
          try simp only [Act.put, List.setIfInBounds_toArray, List.set_cons_zero, List.set_cons_succ]
          refine Mq.T_take 2 (v := ?_) rfl (by kernel_rfl) (by kernel_rfl) (by kernel_rfl) (by kernel_rfl) (by kernel_rfl) (by kernel_rfl) (by kernel_rfl) (fun _ _ _ h => h) (by rfl) hHeld ?_ ?_
          rotate_left
          · (intro w hSw; (try dsimp only at hSw); go_simp; (try with_reducible rfl))
          try simp only [Act.put, List.setIfInBounds_toArray, List.set_cons_zero, List.set_cons_succ]
          refine Mq.T_take 3 (v := ?_) rfl (by kernel_rfl) (by kernel_rfl) (by kernel_rfl) (by kernel_rfl) (by kernel_rfl) (by kernel_rfl) (by kernel_rfl) (fun _ _ _ h => h) (by rfl) hHeld ?_ ?_
          rotate_left
          · (intro w hSw; (try dsimp only at hSw); go_simp; (try with_reducible rfl))
          try simp only [Act.put, List.setIfInBounds_toArray, List.set_cons_zero, List.set_cons_succ]
          refine Mq.T_take 4 (v := ?_) rfl (by kernel_rfl) (by kernel_rfl) (by kernel_rfl) (by kernel_rfl) (by kernel_rfl) (by kernel_rfl) (by kernel_rfl) (fun _ _ _ h => h) (by rfl) hHeld ?_ ?_
          rotate_left
          · (intro w hSw; (try dsimp only at hSw); go_simp; (try with_reducible rfl))
          try simp only [Act.put, List.setIfInBounds_toArray, List.set_cons_zero, List.set_cons_succ]
          refine Mq.T_take 5 (v := ?_) rfl (by kernel_rfl) (by kernel_rfl) (by kernel_rfl) (by kernel_rfl) (by kernel_rfl) (by kernel_rfl) (by kernel_rfl) (fun _ _ _ h => h) (by rfl) hHeld ?_ ?_
          rotate_left
          · (intro w hSw; (try dsimp only at hSw); go_simp; (try with_reducible rfl))
          try simp only [Act.put, List.setIfInBounds_toArray, List.set_cons_zero, List.set_cons_succ]
          refine Mq.T_take 6 (v := ?_) rfl (by kernel_rfl) (by kernel_rfl) (by kernel_rfl) (by kernel_rfl) (by kernel_rfl) (by kernel_rfl) (by kernel_rfl) (fun _ _ _ h => h) (by rfl) hHeld ?_ ?_
          rotate_left
          · (intro w hSw; (try dsimp only at hSw); go_simp; (try with_reducible rfl))
          try simp only [Act.put, List.setIfInBounds_toArray, List.set_cons_zero, List.set_cons_succ]
          refine Mq.T_take 7 (v := ?_) rfl (by kernel_rfl) (by kernel_rfl) (by kernel_rfl) (by kernel_rfl) (by kernel_rfl) (by kernel_rfl) (by kernel_rfl) (fun _ _ _ h => h) (by rfl) hHeld ?_ ?_
          rotate_left
          · (intro w hSw; (try dsimp only at hSw); go_simp; (try with_reducible rfl))
          try simp only [Act.put, List.setIfInBounds_toArray, List.set_cons_zero, List.set_cons_succ]
          refine Mq.T_take 8 (v := ?_) rfl (by kernel_rfl) (by kernel_rfl) (by kernel_rfl) (by kernel_rfl) (by kernel_rfl) (by kernel_rfl) (by kernel_rfl) (fun _ _ _ h => h) (by rfl) hHeld ?_ ?_
          rotate_left
          · (intro w hSw; (try dsimp only at hSw); go_simp; (try with_reducible rfl))
          try simp only [Act.put, List.setIfInBounds_toArray, List.set_cons_zero, List.set_cons_succ]
          refine Mq.T_take 9 (v := ?_) rfl (by kernel_rfl) (by kernel_rfl) (by kernel_rfl) (by kernel_rfl) (by kernel_rfl) (by kernel_rfl) (by kernel_rfl) (fun _ _ _ h => h) (by rfl) hHeld ?_ ?_
          rotate_left
          · (intro w hSw; (try dsimp only at hSw); go_simp; (try with_reducible rfl))
          try simp only [Act.put, List.setIfInBounds_toArray, List.set_cons_zero, List.set_cons_succ]
          refine Mq.T_step 10 (by kernel_rfl) (by kernel_rfl) rfl (fun K hK => ?_)
          go_simp
          obtain ⟨eb, heb⟩ : ∃ n, n = we.heap.size := ⟨_, rfl⟩
          have xe := gb_new we (.cells #[.string u.name, .int .i64 1, .string ⟨#[]⟩, .string ⟨#[]⟩, .int .i64 7] 50)
          have HB5 := Lib.hid (Below.alloc hbe hbe.size (.cells #[.string u.name, .int .i64 1, .string ⟨#[]⟩, .string ⟨#[]⟩, .int .i64 7] 50))
          rw [← heb] at xe ⊢
          generalize we.alloc (.cells #[.string u.name, .int .i64 1, .string ⟨#[]⟩, .string ⟨#[]⟩, .int .i64 7] 50) = w5 at *
          have XE := Lib.hid xe
          clear xe heb
          have OF5 := Lib.hid (ow_below hus2.out.links HB5.out)
          refine hK.out _ _ ?_ (fun hHeld2 => ?_)
          · exact ⟨(HB5.out.cell (p := ⟨gr, idx * 5, none⟩) hgd).trans c0, (HB5.out.cell (p := ⟨gr, idx * 5 + 2, none⟩) hgd).trans c2⟩
          clear hK K hHeld
          have hHeld := hHeld2
          clear hHeld2
          try simp only [Act.put, List.setIfInBounds_toArray, List.set_cons_zero, List.set_cons_succ]
          refine Mq.T_step 11 (by kernel_rfl) (by kernel_rfl) rfl (fun K hK => ?_)
          refine step_append_lies _ (by rfl) _ _ _ (by rfl) B0 50 il _ 5 64 Tryd.underlying45 IL.out IL0.out IL1.out IL2.out rfl (by omega) (.slice u.links.A u.links.l.length u.links.cap) u.links.l.length (u.links.l.flatMap lkc) (by rfl) OF5.out ⟨eb, 0, none⟩ 1 1 [.string u.name, .int .i64 1, .string ⟨#[]⟩, .string ⟨#[]⟩, .int .i64 7] (by rfl) (by rfl) (World.news_of_block (cs := ([.string u.name, .int .i64 1, .string ⟨#[]⟩, .string ⟨#[]⟩, .int .i64 7]).toArray) XE.out) (by intro u hu; simp at hu; rcases hu with rfl | rfl | rfl | rfl | rfl <;> rfl) (by omega) (by unfold maxLen; omega) (by omega) (by have := HB5.out.size; omega) w5.heap.size rfl ?_
          intro g2 c6 w6 ho hg hat hlt6
          have GN := Lib.hid ho
          have G7 := Lib.hid (blk_grown (gb_blk HB5.out S7.out (gb_lt S7.out)) OF5.out (by decide) hg)
          have G6 := Lib.hid (blk_grown (gb_blk HB5.out S6.out (gb_lt S6.out)) OF5.out (by decide) hg)
          have GC := Lib.hid (blk_grown (gb_blk HB5.out CUR.out hgd) OF5.out (by decide) hg)
          have GM := Lib.hid (own_grown (ow_below SM.out HB5.out) OF5.out (by decide) hg)
          have GR := Lib.hid (own_grown (ow_below SR.out HB5.out) OF5.out (by decide) hg)
          have GB := Lib.hid (ow_grown (SB.out.trans (HB5.out.mono (show q3 ≤ wd.heap.size by omega))) hg (own_le OF5.out (show q3 ≤ B0 by omega)) (by have := HB5.out.size; omega))
          have GU : Hid (∀ (j : Nat) (v : RtV), rs[j]? = some v → j ≠ idx → OwnRt w6 B0 v) := Lib.hid fun j v hj hne => by
            have h := (SU.out v (List.mem_of_getElem? hj)).below HB5.out
            have ap := apart_at HPW.out HU.out hj hne
            exact ⟨own_grown h.nets OF5.out (by decide) hg, own_grown2 h.links (fun k h1 h2 => ap.links k h2 h1) hg, own_grown h.stats OF5.out (by decide) hg⟩
          have GX := Lib.hid (own_grown (ow_below hus2.out.nets HB5.out) OF5.out (by decide) hg)
          have GY := Lib.hid (own_grown (ow_below hus2.out.stats HB5.out) OF5.out (by decide) hg)
          clear ho hg hat hlt6
          have fr6 := gb_free GC.out (idx * 5 + 2)
          refine hK.out _ _ ?_ (fun hHeld2 => ?_)
          · exact ⟨own_cell rtc_len GR.out HU.out 0 (by omega), own_cell rtc_len GR.out HU.out 2 (by omega)⟩
          clear hK K hHeld
          have hHeld := hHeld2
          clear hHeld2
          try simp only [Act.put, List.setIfInBounds_toArray, List.set_cons_zero, List.set_cons_succ]
          refine Mq.T_take 12 (v := ?_) rfl (by kernel_rfl) (by kernel_rfl) (by kernel_rfl) (by kernel_rfl) (by kernel_rfl) (by kernel_rfl) (by kernel_rfl) (fun _ _ _ h => h) (by rfl) hHeld ?_ ?_
          rotate_left
          · (intro w hSw; (try dsimp only at hSw); go_simp; (try with_reducible rfl))
          try simp only [Act.put, List.setIfInBounds_toArray, List.set_cons_zero, List.set_cons_succ]
          refine Mq.T_take 13 (v := ?_) rfl (by kernel_rfl) (by kernel_rfl) (by kernel_rfl) (by kernel_rfl) (by kernel_rfl) (by kernel_rfl) (by kernel_rfl) (fun _ _ _ h => h) (by rfl) hHeld ?_ ?_
          rotate_left
          · (intro w hSw; (try dsimp only at hSw); go_simp; (try with_reducible rfl))
          try simp only [Act.put, List.setIfInBounds_toArray, List.set_cons_zero, List.set_cons_succ]
          refine Mq.T_last (by kernel_rfl) rfl (fun K hK => ?_)
          go_simp
          refine hK.out _ _ ?_
          clear hK K hHeld
          try simp only [Act.put, List.setIfInBounds_toArray, List.set_cons_zero, List.set_cons_succ]
          refine wpAny_done (by kernel_rfl) ?_ _
          refine NoPanic.normal ?_
          go_upto_region 38 with fail
          clear em em2 c0 c1 c2 c3 d0 fr q0 q1 fr6 hbe
          have t7 := gb_far G7.out (p := ⟨gr, idx * 5 + 2, none⟩) (show q3 + 1 + 1 ≠ gr by omega) (.slice (some ⟨g2, 0, none⟩) (u.links.l.length + 1) c6)
          have t6 := gb_far G6.out (p := ⟨gr, idx * 5 + 2, none⟩) (show q3 + 1 ≠ gr by omega) (.slice (some ⟨g2, 0, none⟩) (u.links.l.length + 1) c6)
          have om := own_store GM.out GC.out (by decide) (idx * 5 + 2) (.slice (some ⟨g2, 0, none⟩) (u.links.l.length + 1) c6)
          obtain ⟨u', hu'⟩ : ∃ u' : RtV, u' = ⟨u.name, u.nets, ⟨some ⟨g2, 0, none⟩, c6, u.links.l ++ [(⟨u.name, 1, ⟨#[]⟩, ⟨#[]⟩, 7⟩ : LkV)]⟩, u.stats, u.at_⟩ := ⟨_, rfl⟩
          have orr : (w6.setCell ⟨gr, idx * 5 + 2, none⟩ (.slice (some ⟨g2, 0, none⟩) (u.links.l.length + 1) c6)).ownsRow B0 48 5 (.slice (some ⟨gr, 0, none⟩) (rs.set idx u').length cr) (rs.set idx u').length ((rs.set idx u').flatMap rtc) := own_setE rtc_len GR.out HU.out (show 2 < 5 by omega) (by rw [hu']; first | rfl | simp [rtc])
          have hfu : FinOk (w6.setCell ⟨gr, idx * 5 + 2, none⟩ (.slice (some ⟨g2, 0, none⟩) (u.links.l.length + 1) c6)) B0 (2 * N + 1) u' := by
            rw [hu']
            exact (by
              have hn := own_store (own_snoc (enc := lkc) (a := (⟨u.name, 1, ⟨#[]⟩, ⟨#[]⟩, 7⟩ : LkV)) (l := u.links.l) GN.out) GC.out (by decide) (idx * 5 + 2) (.slice (some ⟨g2, 0, none⟩) (u.links.l.length + 1) c6)
              exact OwnRt.fin (u := ⟨u.name, u.nets, ⟨some ⟨g2, 0, none⟩, c6, u.links.l ++ [(⟨u.name, 1, ⟨#[]⟩, ⟨#[]⟩, 7⟩ : LkV)]⟩, u.stats, u.at_⟩) ⟨own_store GX.out GC.out (by decide) _ _, hn, own_store GY.out GC.out (by decide) _ _⟩ ⟨by simp only; omega, by simp only [List.length_append, List.length_cons, List.length_nil]; omega, by simp only; omega⟩)
          have hall : ∀ v ∈ rs.set idx u', FinOk (w6.setCell ⟨gr, idx * 5 + 2, none⟩ (.slice (some ⟨g2, 0, none⟩) (u.links.l.length + 1) c6)) B0 (2 * N + 1) v := set_all (fun j v hj hne => ((GU.out j v hj hne).store GC.out (idx * 5 + 2) (.slice (some ⟨g2, 0, none⟩) (u.links.l.length + 1) c6) (by decide)).fin ((SBD.out v (List.mem_of_getElem? hj)).le (by omega))) hfu
          have hbb : Below q3 w (w6.setCell ⟨gr, idx * 5 + 2, none⟩ (.slice (some ⟨g2, 0, none⟩) (u.links.l.length + 1) c6)) := Below.setCell GB.out (show q3 ≤ gr by omega) (.slice (some ⟨g2, 0, none⟩) (u.links.l.length + 1) c6)
          obtain ⟨rs', hrs', hlen⟩ : ∃ rs', rs' = rs.set idx u' ∧ rs'.length = rs.length := ⟨_, rfl, List.length_set⟩
          rw [← hrs'] at orr hall
          rw [← hlen] at t7
          have hlN : rs'.length ≤ N := by omega
          generalize w6.setCell ⟨gr, idx * 5 + 2, none⟩ (.slice (some ⟨g2, 0, none⟩) (u.links.l.length + 1) c6) = wz at *
          have Z7 := Lib.hid t7; have Z6 := Lib.hid t6; have ZM := Lib.hid om; have ZR := Lib.hid orr; have ZU := Lib.hid hall; have ZB := Lib.hid hbb
          clear t7 t6 om orr hall hbb hfu hu' hrs' hlen
          obtain ⟨q0, q1⟩ := gb_cells2 Z7.out
          obtain ⟨y0, y1⟩ := gb_cells2 Z6.out
          have f0 := gb_free Z6.out 0
          have f1 := gb_free Z6.out 1
          have l6 := gb_lt Z6.out
          go_wp2_with fail
          clear q0 q1 y0 y1 f0 f1
          obtain ⟨t6, hcf, hbc, hbl⟩ := turn_fin (N := 2 * N + 1) (w := w) Z6.out (by omega) ZM.out ZR.out ZU.out (by have := HQ.out; omega) (by have := ZB.out; rwa [HQ.out] at this) (by omega) (by omega)
          generalize (wz.setCell ⟨q3 + 1, 0, none⟩ (.slice Am c.maps.l.length cm)).setCell ⟨q3 + 1, 1, none⟩ (.slice (some ⟨gr, 0, none⟩) rs'.length cr) = wy at *
          obtain ⟨y0, y1⟩ := gb_cells2 t6
          refine bodyPost_ret (v := .agg #[.slice Am c.maps.l.length cm, .slice (some ⟨gr, 0, none⟩) rs'.length cr]) (by simp [results, Tryd.results11, go_sem, y0, y1]) rfl ⟨⟨⟨Am, cm, c.maps.l⟩, ⟨some ⟨gr, 0, none⟩, cr, rs'⟩⟩, rfl, hcf, hbc, hbl⟩
        · have em : (h8 : Int).tmod 8 = 3 := by rw [Int.tmod_eq_emod_of_nonneg (Int.natCast_nonneg h8)]; have := HM.out; omega
          have em2 : IntKind.u8.wrap (3 : Int) = 3 := by decide
          by_cases hl0 : u.links.l.length = 0
          · have hg : u.links.l.length ≤ 0 := by omega
            clear hl0
            go_upto_region 38 with fail
            clear em em2 c0 c1 c2 c3 d0 fr q0 q1 hg
            obtain ⟨q0, q1⟩ := gb_cells2 S7.out
            obtain ⟨y0, y1⟩ := gb_cells2 S6.out
            have f0 := gb_free S6.out 0
            have f1 := gb_free S6.out 1
            have l6 := gb_lt S6.out
            go_wp2_with fail
            clear q0 q1 y0 y1 f0 f1
            obtain ⟨t6, hcf, hbc, hbl⟩ := turn_fin (N := 2 * N + 1) (w := w) S6.out (by omega) SM.out SR.out (fun v hv => (SU.out v hv).fin ((SBD.out v hv).le (by omega))) (by have := HQ.out; omega) (by have := SB.out; rwa [HQ.out] at this) (by omega) (by omega)
            generalize (wd.setCell ⟨q3 + 1, 0, none⟩ (.slice Am c.maps.l.length cm)).setCell ⟨q3 + 1, 1, none⟩ (.slice (some ⟨gr, 0, none⟩) rs.length cr) = wy at *
            obtain ⟨y0, y1⟩ := gb_cells2 t6
            refine bodyPost_ret (v := .agg #[.slice Am c.maps.l.length cm, .slice (some ⟨gr, 0, none⟩) rs.length cr]) (by simp [results, Tryd.results11, go_sem, y0, y1]) rfl ⟨⟨⟨Am, cm, c.maps.l⟩, ⟨some ⟨gr, 0, none⟩, cr, rs⟩⟩, rfl, hcf, hbc, hbl⟩
          · have hg2 : 0 < u.links.l.length := by omega
            obtain ⟨y, hy⟩ : ∃ y, u.links.l[0]? = some y := ⟨_, List.getElem?_eq_getElem (by omega)⟩
            obtain ⟨gl, capl, hsl, hglB, hgl⟩ := hus2.out.links.form (by omega)
            injection hsl with hAl _ hcl
            have oll := hus2.out.links
            rw [hAl] at oll c2
            obtain ⟨cul, hcul⟩ := own_blk oll
            have cy : wd.cell? ⟨gl, 2, none⟩ = some (.string y.imp) := by simpa [lkc] using own_cell lkc_len oll hy 2 (by omega)
            have fl := gb_free hcul 2
            have HY := Lib.hid hy
            have HAL := Lib.hid hAl
            have OLL := Lib.hid oll
            have CUL := Lib.hid hcul
            clear hy hAl oll hcul hcl
            go_upto_region 38 with fail
            clear em em2 c0 c1 c2 c3 d0 fr q0 q1 hg2 cy fl
            obtain ⟨y', hy'⟩ : ∃ y' : LkV, y' = ⟨y.peer, y.cost, ⟨#[120]⟩, y.exp, y.at_⟩ := ⟨_, rfl⟩
            have ol2 : (wd.setCell ⟨gl, 2, none⟩ (.string ⟨#[120]⟩)).ownsRow B0 50 5 (.slice u.links.A (u.links.l.set 0 y').length u.links.cap) (u.links.l.set 0 y').length ((u.links.l.set 0 y').flatMap lkc) := by
              have h := own_setE (a' := y') (j := 2) (v := .string ⟨#[120]⟩) lkc_len OLL.out HY.out (by omega) (by rw [hy']; rfl)
              rw [HAL.out]
              simpa using h
            obtain ⟨u', hu'⟩ : ∃ u' : RtV, u' = ⟨u.name, u.nets, ⟨u.links.A, u.links.cap, u.links.l.set 0 y'⟩, u.stats, u.at_⟩ := ⟨_, rfl⟩
            have hne6 : q3 + 1 ≠ gl := by omega
            have hne7 : q3 + 1 + 1 ≠ gl := by omega
            have t7 := gb_far S7.out (p := ⟨gl, 2, none⟩) hne7 (.string ⟨#[120]⟩)
            have t6 := gb_far S6.out (p := ⟨gl, 2, none⟩) hne6 (.string ⟨#[120]⟩)
            have om := own_store SM.out CUL.out (by decide) 2 (.string ⟨#[120]⟩)
            have orr : (wd.setCell ⟨gl, 2, none⟩ (.string ⟨#[120]⟩)).ownsRow B0 48 5 (.slice (some ⟨gr, 0, none⟩) (rs.set idx u').length cr) (rs.set idx u').length ((rs.set idx u').flatMap rtc) := by
              rw [List.length_set, flat_same (by rw [hu']; simp [rtc]) HU.out]
              exact own_store SR.out CUL.out (by decide) 2 (.string ⟨#[120]⟩)
            have hobk : obk u.links = some gl := by unfold obk; rw [HAL.out]; rfl
            have hall : ∀ v ∈ rs.set idx u', FinOk (wd.setCell ⟨gl, 2, none⟩ (.string ⟨#[120]⟩)) B0 (2 * N + 1) v := by
              refine set_all (fun j v hj hne => ?_) ?_
              · have h := SU.out v (List.mem_of_getElem? hj)
                exact OwnRt.fin ⟨own_store h.nets CUL.out (by decide) 2 _, own_far h.links ((apart_at HPW.out HU.out hj hne).links gl hobk) _, own_store h.stats CUL.out (by decide) 2 _⟩ ((SBD.out v (List.mem_of_getElem? hj)).le (by omega))
              · rw [hu']
                exact OwnRt.fin (u := ⟨u.name, u.nets, ⟨u.links.A, u.links.cap, u.links.l.set 0 y'⟩, u.stats, u.at_⟩) ⟨own_store hus2.out.nets CUL.out (by decide) 2 _, ol2, own_store hus2.out.stats CUL.out (by decide) 2 _⟩ ⟨by simp only; omega, by simp only [List.length_set]; omega, by simp only; omega⟩
            have hbb : Below q3 w (wd.setCell ⟨gl, 2, none⟩ (.string ⟨#[120]⟩)) := Below.setCell SB.out (show q3 ≤ gl by omega) _
            obtain ⟨rs', hrs', hlen⟩ : ∃ rs', rs' = rs.set idx u' ∧ rs'.length = rs.length := ⟨_, rfl, List.length_set⟩
            rw [← hrs'] at orr hall
            rw [← hlen] at t7
            have hlN : rs'.length ≤ N := by omega
            generalize wd.setCell ⟨gl, 2, none⟩ (.string ⟨#[120]⟩) = wz at *
            have Z7 := Lib.hid t7; have Z6 := Lib.hid t6; have ZM := Lib.hid om; have ZR := Lib.hid orr; have ZU := Lib.hid hall; have ZB := Lib.hid hbb
            clear t7 t6 om orr hall hbb ol2 hu' hrs' hlen hy'
            obtain ⟨q0, q1⟩ := gb_cells2 Z7.out
            obtain ⟨y0, y1⟩ := gb_cells2 Z6.out
            have f0 := gb_free Z6.out 0
            have f1 := gb_free Z6.out 1
            have l6 := gb_lt Z6.out
            go_wp2_with fail
            clear q0 q1 y0 y1 f0 f1
            obtain ⟨t6, hcf, hbc, hbl⟩ := turn_fin (N := 2 * N + 1) (w := w) Z6.out (by omega) ZM.out ZR.out ZU.out (by have := HQ.out; omega) (by have := ZB.out; rwa [HQ.out] at this) (by omega) (by omega)
            generalize (wz.setCell ⟨q3 + 1, 0, none⟩ (.slice Am c.maps.l.length cm)).setCell ⟨q3 + 1, 1, none⟩ (.slice (some ⟨gr, 0, none⟩) rs'.length cr) = wy at *
            obtain ⟨y0, y1⟩ := gb_cells2 t6
            refine bodyPost_ret (v := .agg #[.slice Am c.maps.l.length cm, .slice (some ⟨gr, 0, none⟩) rs'.length cr]) (by simp [results, Tryd.results11, go_sem, y0, y1]) rfl ⟨⟨⟨Am, cm, c.maps.l⟩, ⟨some ⟨gr, 0, none⟩, cr, rs'⟩⟩, rfl, hcf, hbc, hbl⟩
        · have em : (h8 : Int).tmod 8 = 4 := by rw [Int.tmod_eq_emod_of_nonneg (Int.natCast_nonneg h8)]; have := HM.out; omega
          have em2 : IntKind.u8.wrap (4 : Int) = 4 := by decide
          have SF : Hid (∀ w', Below wd.heap.size wd w' → Sli pfc 2 w' wd.heap.size u.nets.A u.nets.l) := Lib.hid fun w' hb => (Sli.of_own pfc_len (by omega) hus2.out.nets).below hb
          go_upto_region 33 with fail
          have hbe := (Below.refl wd.heap.size wd).drew
          refine wp_region_noPanic ?_
          refine Mq.wp_region_T 13 (fun w' => w'.cell? ⟨gr, idx * 5 + 1, none⟩ = some (.slice u.nets.A u.nets.l.length u.nets.cap)) (by kernel_rfl) ?_ (fun hHeld => ?_)
          · exact c1
          generalize wd.drew = we at *
          refine Mq.T_take 0 (v := ?_) rfl (by kernel_rfl) (by kernel_rfl) (by kernel_rfl) (by kernel_rfl) (by kernel_rfl) (by kernel_rfl) (by kernel_rfl) (fun _ _ _ h => h) (by rfl) hHeld ?_ ?_
          rotate_left
          · (intro w hSw; (try dsimp only at hSw); go_simp; (try with_reducible rfl))
          try simp only [Act.put, List.setIfInBounds_toArray, List.set_cons_zero, List.set_cons_succ]
          refine Mq.T_take 1 (v := ?_) rfl (by kernel_rfl) (by kernel_rfl) (by kernel_rfl) (by kernel_rfl) (by kernel_rfl) (by kernel_rfl) (by kernel_rfl) (fun _ _ _ h => h) (by rfl) hHeld ?_ ?_
          rotate_left
          · (intro w hSw; (try dsimp only at hSw); go_simp; (try with_reducible rfl))
          try simp only [Act.put, List.setIfInBounds_toArray, List.set_cons_zero, List.set_cons_succ]
          refine Mq.T_take 2 (v := ?_) rfl (by kernel_rfl) (by kernel_rfl) (by kernel_rfl) (by kernel_rfl) (by kernel_rfl) (by kernel_rfl) (by kernel_rfl) (fun _ _ _ h => h) (by rfl) hHeld ?_ ?_
          rotate_left
          · (intro w hSw; (try dsimp only at hSw); go_simp; (try with_reducible rfl))
          try simp only [Act.put, List.setIfInBounds_toArray, List.set_cons_zero, List.set_cons_succ]
          refine Mq.T_take 3 (v := ?_) rfl (by kernel_rfl) (by kernel_rfl) (by kernel_rfl) (by kernel_rfl) (by kernel_rfl) (by kernel_rfl) (by kernel_rfl) (fun _ _ _ h => h) (by rfl) hHeld ?_ ?_
          rotate_left
          · (intro w hSw; (try dsimp only at hSw); go_simp; (try with_reducible rfl))
          try simp only [Act.put, List.setIfInBounds_toArray, List.set_cons_zero, List.set_cons_succ]
          refine Mq.T_take 4 (v := ?_) rfl (by kernel_rfl) (by kernel_rfl) (by kernel_rfl) (by kernel_rfl) (by kernel_rfl) (by kernel_rfl) (by kernel_rfl) (fun _ _ _ h => h) (by rfl) hHeld ?_ ?_
          rotate_left
          · (intro w hSw; (try dsimp only at hSw); go_simp; (try with_reducible rfl))
          try simp only [Act.put, List.setIfInBounds_toArray, List.set_cons_zero, List.set_cons_succ]
          refine Mq.T_take 6 (v := ?_) rfl (by kernel_rfl) (by kernel_rfl) (by kernel_rfl) (by kernel_rfl) (by kernel_rfl) (by kernel_rfl) (by kernel_rfl) (fun _ _ _ h => h) (by rfl) hHeld ?_ ?_
          rotate_left
          · (intro w hSw; (try dsimp only at hSw); go_simp; (try with_reducible rfl))
          try simp only [Act.put, List.setIfInBounds_toArray, List.set_cons_zero, List.set_cons_succ]
          refine Mq.T_take 7 (v := ?_) rfl (by kernel_rfl) (by kernel_rfl) (by kernel_rfl) (by kernel_rfl) (by kernel_rfl) (by kernel_rfl) (by kernel_rfl) (fun _ _ _ h => h) (by rfl) hHeld ?_ ?_
          rotate_left
          · (intro w hSw; (try dsimp only at hSw); go_simp; (try with_reducible rfl))
          try simp only [Act.put, List.setIfInBounds_toArray, List.set_cons_zero, List.set_cons_succ]
          refine Mq.T_take 8 (v := ?_) rfl (by kernel_rfl) (by kernel_rfl) (by kernel_rfl) (by kernel_rfl) (by kernel_rfl) (by kernel_rfl) (by kernel_rfl) (fun _ _ _ h => h) (by rfl) hHeld ?_ ?_
          rotate_left
          · (intro w hSw; (try dsimp only at hSw); go_simp; (try with_reducible rfl))
          try simp only [Act.put, List.setIfInBounds_toArray, List.set_cons_zero, List.set_cons_succ]
          refine Mq.T_take 9 (v := ?_) rfl (by kernel_rfl) (by kernel_rfl) (by kernel_rfl) (by kernel_rfl) (by kernel_rfl) (by kernel_rfl) (by kernel_rfl) (fun _ _ _ h => h) (by rfl) hHeld ?_ ?_
          rotate_left
          · (intro w hSw; (try dsimp only at hSw); go_simp; (try with_reducible rfl))
          try simp only [Act.put, List.setIfInBounds_toArray, List.set_cons_zero, List.set_cons_succ]
          refine Mq.T_step 5 (by kernel_rfl) (by kernel_rfl) rfl (fun K hK => ?_)
          refine step_append_sli0 (by rfl) _ _ _ (by rfl) wd.heap.size 66 ip _ 16 Tryd.underlying44 IP.out IP0.out IP1.out IP2.out rfl (by omega) (by rfl) u.nets.A u.nets.cap u.nets.l (by rfl) (SF.out _ hbe) pfc_len pfc_one (by unfold maxLen; omega) (by omega) hbe.size ?_
          intro A5 c5 w5 ho hb
          have OA5 := Lib.hid ho
          have HB5 := Lib.hid (hbe.trans (hb.mono hbe.size))
          clear ho hb
          refine hK.out _ _ ?_ (fun hHeld2 => ?_)
          · exact (HB5.out.cell (p := ⟨gr, idx * 5 + 1, none⟩) hgd).trans c1
          clear hK K hHeld
          have hHeld := hHeld2
          clear hHeld2
          try simp only [Act.put, List.setIfInBounds_toArray, List.set_cons_zero, List.set_cons_succ]
          refine Mq.T_step 10 (by kernel_rfl) (by kernel_rfl) rfl (fun K hK => ?_)
          refine step_append_sli (by rfl) _ _ _ (by rfl) wd.heap.size 66 ip _ 16 Tryd.underlying44 IP.out IP0.out IP1.out IP2.out rfl (by omega) (.slice A5 u.nets.l.length c5) u.nets.l.length (u.nets.l.flatMap pfc) (by rfl) OA5.out u.nets.A u.nets.cap u.nets.l (by rfl) (SF.out _ HB5.out) pfc_len pfc_one (by unfold maxLen; omega) (by omega) HB5.out.size ?_
          intro A6 c6 w6 ho hg hat
          have OA6 := Lib.hid ho
          have HB6 := Lib.hid (ow_grown HB5.out hg OA5.out HB5.out.size)
          clear ho hg hat
          have fr6 := gb_free (gb_blk HB6.out CUR.out hgd) (idx * 5 + 1)
          refine hK.out _ _ ?_ (fun hHeld2 => ?_)
          · exact (HB6.out.cell (p := ⟨gr, idx * 5 + 1, none⟩) hgd).trans c1
          clear hK K hHeld
          have hHeld := hHeld2
          clear hHeld2
          try simp only [Act.put, List.setIfInBounds_toArray, List.set_cons_zero, List.set_cons_succ]
          refine Mq.T_take 11 (v := ?_) rfl (by kernel_rfl) (by kernel_rfl) (by kernel_rfl) (by kernel_rfl) (by kernel_rfl) (by kernel_rfl) (by kernel_rfl) (fun _ _ _ h => h) (by rfl) hHeld ?_ ?_
          rotate_left
          · (intro w hSw; (try dsimp only at hSw); go_simp; (try with_reducible rfl))
          try simp only [Act.put, List.setIfInBounds_toArray, List.set_cons_zero, List.set_cons_succ]
          refine Mq.T_take 12 (v := ?_) rfl (by kernel_rfl) (by kernel_rfl) (by kernel_rfl) (by kernel_rfl) (by kernel_rfl) (by kernel_rfl) (by kernel_rfl) (fun _ _ _ h => h) (by rfl) hHeld ?_ ?_
          rotate_left
          · (intro w hSw; (try dsimp only at hSw); go_simp; (try with_reducible rfl))
          try simp only [Act.put, List.setIfInBounds_toArray, List.set_cons_zero, List.set_cons_succ]
          refine Mq.T_last (by kernel_rfl) rfl (fun K hK => ?_)
          go_simp
          refine hK.out _ _ ?_
          clear hK K hHeld
          try simp only [Act.put, List.setIfInBounds_toArray, List.set_cons_zero, List.set_cons_succ]
          refine wpAny_done (by kernel_rfl) ?_ _
          refine NoPanic.normal ?_
          go_upto_region 38 with fail
          clear em em2 c0 c1 c2 c3 d0 fr q0 q1 fr6 hbe OA5 HB5
          have G7 := Lib.hid (gb_blk HB6.out S7.out (gb_lt S7.out)); have G6 := Lib.hid (gb_blk HB6.out S6.out (gb_lt S6.out)); have GM := Lib.hid (ow_below SM.out HB6.out); have GR := Lib.hid (ow_below SR.out HB6.out); have GC := Lib.hid (gb_blk HB6.out CUR.out hgd); have GB := Lib.hid (SB.out.trans (HB6.out.mono (show q3 ≤ wd.heap.size by omega)))
          have GU := Lib.hid (fun (j : Nat) (v : RtV) (hj : rs[j]? = some v) (_ : j ≠ idx) => (SU.out v (List.mem_of_getElem? hj)).below HB6.out)
          have GX := Lib.hid (hus2.out.below HB6.out)
          have t7 := gb_far G7.out (p := ⟨gr, idx * 5 + 1, none⟩) (show q3 + 1 + 1 ≠ gr by omega) (.slice A6 (u.nets.l.length + u.nets.l.length) c6)
          have t6 := gb_far G6.out (p := ⟨gr, idx * 5 + 1, none⟩) (show q3 + 1 ≠ gr by omega) (.slice A6 (u.nets.l.length + u.nets.l.length) c6)
          have om := own_store GM.out GC.out (by decide) (idx * 5 + 1) (.slice A6 (u.nets.l.length + u.nets.l.length) c6)
          obtain ⟨u', hu'⟩ : ∃ u' : RtV, u' = ⟨u.name, ⟨A6, c6, u.nets.l ++ u.nets.l⟩, u.links, u.stats, u.at_⟩ := ⟨_, rfl⟩
          have orr : (w6.setCell ⟨gr, idx * 5 + 1, none⟩ (.slice A6 (u.nets.l.length + u.nets.l.length) c6)).ownsRow B0 48 5 (.slice (some ⟨gr, 0, none⟩) (rs.set idx u').length cr) (rs.set idx u').length ((rs.set idx u').flatMap rtc) := own_setE rtc_len GR.out HU.out (show 1 < 5 by omega) (by rw [hu']; first | rfl | simp [rtc])
          have hfu : FinOk (w6.setCell ⟨gr, idx * 5 + 1, none⟩ (.slice A6 (u.nets.l.length + u.nets.l.length) c6)) B0 (2 * N + 1) u' := by
            rw [hu']
            exact (by
              have hx := GX.out.store GC.out (idx * 5 + 1) (.slice A6 (u.nets.l.length + u.nets.l.length) c6) (by decide)
              have hn := own_store (own_le OA6.out (show B0 ≤ wd.heap.size by omega)) GC.out (by decide) (idx * 5 + 1) (.slice A6 (u.nets.l.length + u.nets.l.length) c6)
              exact OwnRt.fin (u := ⟨u.name, ⟨A6, c6, u.nets.l ++ u.nets.l⟩, u.links, u.stats, u.at_⟩) ⟨by simpa [List.flatMap_append] using hn, hx.links, hx.stats⟩ ⟨by simp only [List.length_append]; omega, by simp only; omega, by simp only; omega⟩)
          have hall : ∀ v ∈ rs.set idx u', FinOk (w6.setCell ⟨gr, idx * 5 + 1, none⟩ (.slice A6 (u.nets.l.length + u.nets.l.length) c6)) B0 (2 * N + 1) v := set_all (fun j v hj hne => ((GU.out j v hj hne).store GC.out (idx * 5 + 1) (.slice A6 (u.nets.l.length + u.nets.l.length) c6) (by decide)).fin ((SBD.out v (List.mem_of_getElem? hj)).le (by omega))) hfu
          have hbb : Below q3 w (w6.setCell ⟨gr, idx * 5 + 1, none⟩ (.slice A6 (u.nets.l.length + u.nets.l.length) c6)) := Below.setCell GB.out (show q3 ≤ gr by omega) (.slice A6 (u.nets.l.length + u.nets.l.length) c6)
          obtain ⟨rs', hrs', hlen⟩ : ∃ rs', rs' = rs.set idx u' ∧ rs'.length = rs.length := ⟨_, rfl, List.length_set⟩
          rw [← hrs'] at orr hall
          rw [← hlen] at t7
          have hlN : rs'.length ≤ N := by omega
          generalize w6.setCell ⟨gr, idx * 5 + 1, none⟩ (.slice A6 (u.nets.l.length + u.nets.l.length) c6) = wz at *
          have Z7 := Lib.hid t7; have Z6 := Lib.hid t6; have ZM := Lib.hid om; have ZR := Lib.hid orr; have ZU := Lib.hid hall; have ZB := Lib.hid hbb
          clear t7 t6 om orr hall hbb hfu hu' hrs' hlen
          obtain ⟨q0, q1⟩ := gb_cells2 Z7.out
          obtain ⟨y0, y1⟩ := gb_cells2 Z6.out
          have f0 := gb_free Z6.out 0
          have f1 := gb_free Z6.out 1
          have l6 := gb_lt Z6.out
          go_wp2_with fail
          clear q0 q1 y0 y1 f0 f1
          obtain ⟨t6, hcf, hbc, hbl⟩ := turn_fin (N := 2 * N + 1) (w := w) Z6.out (by omega) ZM.out ZR.out ZU.out (by have := HQ.out; omega) (by have := ZB.out; rwa [HQ.out] at this) (by omega) (by omega)
          generalize (wz.setCell ⟨q3 + 1, 0, none⟩ (.slice Am c.maps.l.length cm)).setCell ⟨q3 + 1, 1, none⟩ (.slice (some ⟨gr, 0, none⟩) rs'.length cr) = wy at *
          obtain ⟨y0, y1⟩ := gb_cells2 t6
          refine bodyPost_ret (v := .agg #[.slice Am c.maps.l.length cm, .slice (some ⟨gr, 0, none⟩) rs'.length cr]) (by simp [results, Tryd.results11, go_sem, y0, y1]) rfl ⟨⟨⟨Am, cm, c.maps.l⟩, ⟨some ⟨gr, 0, none⟩, cr, rs'⟩⟩, rfl, hcf, hbc, hbl⟩
        · have em : (h8 : Int).tmod 8 = 5 := by rw [Int.tmod_eq_emod_of_nonneg (Int.natCast_nonneg h8)]; have := HM.out; omega
          have em2 : IntKind.u8.wrap (5 : Int) = 5 := by decide
          obtain ⟨kn, hkn8, HKN⟩ : ∃ kn, kn < 8 ∧ Hid (kn = n8 / 8 % 8) := ⟨_, Nat.mod_lt _ (by omega), Lib.hid rfl⟩
          obtain ⟨kd, hkd, HKD⟩ : ∃ kd, kd < 32 ∧ Hid (kd = n8 / 8) := ⟨n8 / 8, by omega, Lib.hid rfl⟩
          have ek0 : IntKind.i64.wrap (n8 : Int) = (n8 : Int) := by rw [IntKind.wrap_i64]; omega
          have ek1 : (n8 : Int).tdiv 8 = (kd : Int) := by rw [Int.tdiv_eq_ediv_of_nonneg (Int.natCast_nonneg n8)]; have := HKD.out; omega
          have ek2 : IntKind.i64.wrap (kd : Int) = (kd : Int) := by rw [IntKind.wrap_i64]; omega
          have ek3 : (kd : Int).tmod 8 = (kn : Int) := by rw [Int.tmod_eq_emod_of_nonneg (Int.natCast_nonneg kd)]; have := HKD.out; have := HKN.out; omega
          have ek4 : IntKind.i64.wrap (kn : Int) = (kn : Int) := by rw [IntKind.wrap_i64]; omega
          have hnm : ∃ nm8, ∀ wx, Calls Tryd.prog 16 #[.int .i64 kn] wx fun e w' => e = .returned (.string nm8) ∧ w' = wx := ⟨_, fun wx => name_any kn hkn8 wx⟩
          obtain ⟨nm8, hnm⟩ := hnm
          have HNM := Lib.hid hnm
          clear hnm
          go_upto_region 35 with fail
          have hbe := (Below.refl wd.heap.size wd).drew
          refine wp_region_noPanic ?_
          refine Mq.wp_region_T 15 (fun w' => w'.cell? ⟨gr, idx * 5 + 3, none⟩ = some (.slice u.stats.A u.stats.l.length u.stats.cap)) (by kernel_rfl) ?_ (fun hHeld => ?_)
          · exact c3
          generalize wd.drew = we at *
          refine Mq.T_take 0 (v := ?_) rfl (by kernel_rfl) (by kernel_rfl) (by kernel_rfl) (by kernel_rfl) (by kernel_rfl) (by kernel_rfl) (by kernel_rfl) (fun _ _ _ h => h) (by rfl) hHeld ?_ ?_
          rotate_left
          · (intro w hSw; (try dsimp only at hSw); go_simp; (try with_reducible rfl))
          try simp only [Act.put, List.setIfInBounds_toArray, List.set_cons_zero, List.set_cons_succ]
          refine Mq.T_take 1 (v := ?_) rfl (by kernel_rfl) (by kernel_rfl) (by kernel_rfl) (by kernel_rfl) (by kernel_rfl) (by kernel_rfl) (by kernel_rfl) (fun _ _ _ h => h) (by rfl) hHeld ?_ ?_
          rotate_left
          · (intro w hSw; (try dsimp only at hSw); go_simp; (try with_reducible rfl))
          try simp only [Act.put, List.setIfInBounds_toArray, List.set_cons_zero, List.set_cons_succ]
          refine Mq.T_take 2 (v := ?_) rfl (by kernel_rfl) (by kernel_rfl) (by kernel_rfl) (by kernel_rfl) (by kernel_rfl) (by kernel_rfl) (by kernel_rfl) (fun _ _ _ h => h) (by rfl) hHeld ?_ ?_
          rotate_left
          · (intro w hSw; (try dsimp only at hSw); go_simp; (try with_reducible rfl))
          try simp only [Act.put, List.setIfInBounds_toArray, List.set_cons_zero, List.set_cons_succ]
          refine Mq.T_take 3 (v := ?_) rfl (by kernel_rfl) (by kernel_rfl) (by kernel_rfl) (by kernel_rfl) (by kernel_rfl) (by kernel_rfl) (by kernel_rfl) (fun _ _ _ h => h) (by rfl) hHeld ?_ ?_
          rotate_left
          · (intro w hSw; (try dsimp only at hSw); go_simp; (try with_reducible rfl))
          try simp only [Act.put, List.setIfInBounds_toArray, List.set_cons_zero, List.set_cons_succ]
          refine Mq.T_take 4 (v := ?_) rfl (by kernel_rfl) (by kernel_rfl) (by kernel_rfl) (by kernel_rfl) (by kernel_rfl) (by kernel_rfl) (by kernel_rfl) (fun _ _ _ h => h) (by rfl) hHeld ?_ ?_
          rotate_left
          · (intro w hSw; (try dsimp only at hSw); go_simp; (try with_reducible rfl))
          try simp only [Act.put, List.setIfInBounds_toArray, List.set_cons_zero, List.set_cons_succ]
          refine Mq.T_take 5 (v := ?_) rfl (by kernel_rfl) (by kernel_rfl) (by kernel_rfl) (by kernel_rfl) (by kernel_rfl) (by kernel_rfl) (by kernel_rfl) (fun _ _ _ h => h) (by rfl) hHeld ?_ ?_
          rotate_left
          · (intro w hSw; (try dsimp only at hSw); go_simp; (try with_reducible rfl))
          try simp only [Act.put, List.setIfInBounds_toArray, List.set_cons_zero, List.set_cons_succ]
          refine Mq.T_take 6 (v := ?_) rfl (by kernel_rfl) (by kernel_rfl) (by kernel_rfl) (by kernel_rfl) (by kernel_rfl) (by kernel_rfl) (by kernel_rfl) (fun _ _ _ h => h) (by rfl) hHeld ?_ ?_
          rotate_left
          · (intro w hSw; (try dsimp only at hSw); go_simp; (try with_reducible rfl))
          try simp only [Act.put, List.setIfInBounds_toArray, List.set_cons_zero, List.set_cons_succ]
          refine Mq.T_take 7 (v := ?_) rfl (by kernel_rfl) (by kernel_rfl) (by kernel_rfl) (by kernel_rfl) (by kernel_rfl) (by kernel_rfl) (by kernel_rfl) (fun _ _ _ h => h) (by rfl) hHeld ?_ ?_
          rotate_left
          · (intro w hSw; (try dsimp only at hSw); go_simp; (try with_reducible rfl))
          try simp only [Act.put, List.setIfInBounds_toArray, List.set_cons_zero, List.set_cons_succ]
          refine Mq.T_take 8 (v := ?_) rfl (by kernel_rfl) (by kernel_rfl) (by kernel_rfl) (by kernel_rfl) (by kernel_rfl) (by kernel_rfl) (by kernel_rfl) (fun _ _ _ h => h) (by rfl) hHeld ?_ ?_
          rotate_left
          · (intro w hSw; (try dsimp only at hSw); go_simp; (try with_reducible rfl))
          try simp only [Act.put, List.setIfInBounds_toArray, List.set_cons_zero, List.set_cons_succ]
          refine Mq.T_step 9 (by kernel_rfl) (by kernel_rfl) rfl (fun K hK => ?_)
          go_simp
          (with_reducible refine (HNM.out _).mono ?_)
          rintro en w8 ⟨rfl, hw8⟩
          subst w8
          refine hK.out _ _ ?_ (fun hHeld2 => ?_)
          · exact hHeld
          clear hK K hHeld
          have hHeld := hHeld2
          clear hHeld2
          try simp only [Act.put, List.setIfInBounds_toArray, List.set_cons_zero, List.set_cons_succ]
          refine Mq.T_take 10 (v := ?_) rfl (by kernel_rfl) (by kernel_rfl) (by kernel_rfl) (by kernel_rfl) (by kernel_rfl) (by kernel_rfl) (by kernel_rfl) (fun _ _ _ h => h) (by rfl) hHeld ?_ ?_
          rotate_left
          · (intro w hSw; (try dsimp only at hSw); go_simp; (try with_reducible rfl))
          try simp only [Act.put, List.setIfInBounds_toArray, List.set_cons_zero, List.set_cons_succ]
          refine Mq.T_step 11 (by kernel_rfl) (by kernel_rfl) rfl (fun K hK => ?_)
          go_simp
          obtain ⟨eb, heb⟩ : ∃ n, n = we.heap.size := ⟨_, rfl⟩
          have xe := gb_new we (.cells #[.int .u32 0, .int .i64 0, .string nm8, .int .i64 8] 70)
          have HB5 := Lib.hid (Below.alloc hbe hbe.size (.cells #[.int .u32 0, .int .i64 0, .string nm8, .int .i64 8] 70))
          rw [← heb] at xe ⊢
          generalize we.alloc (.cells #[.int .u32 0, .int .i64 0, .string nm8, .int .i64 8] 70) = w5 at *
          have XE := Lib.hid xe
          clear xe heb
          have OF5 := Lib.hid (ow_below hus2.out.stats HB5.out)
          refine hK.out _ _ ?_ (fun hHeld2 => ?_)
          · exact (HB5.out.cell (p := ⟨gr, idx * 5 + 3, none⟩) hgd).trans c3
          clear hK K hHeld
          have hHeld := hHeld2
          clear hHeld2
          try simp only [Act.put, List.setIfInBounds_toArray, List.set_cons_zero, List.set_cons_succ]
          refine Mq.T_step 12 (by kernel_rfl) (by kernel_rfl) rfl (fun K hK => ?_)
          refine step_append_lies _ (by rfl) _ _ _ (by rfl) B0 70 is _ 4 40 Tryd.underlying46 IS.out IS0.out IS1.out IS2.out rfl (by omega) (.slice u.stats.A u.stats.l.length u.stats.cap) u.stats.l.length (u.stats.l.flatMap stc) (by rfl) OF5.out ⟨eb, 0, none⟩ 1 1 [.int .u32 0, .int .i64 0, .string nm8, .int .i64 8] (by rfl) (by rfl) (World.news_of_block (cs := ([.int .u32 0, .int .i64 0, .string nm8, .int .i64 8]).toArray) XE.out) (by intro u hu; simp at hu; rcases hu with rfl | rfl | rfl | rfl <;> rfl) (by omega) (by unfold maxLen; omega) (by omega) (by have := HB5.out.size; omega) w5.heap.size rfl ?_
          intro g2 c6 w6 ho hg hat hlt6
          have GN := Lib.hid ho
          have G7 := Lib.hid (blk_grown (gb_blk HB5.out S7.out (gb_lt S7.out)) OF5.out (by decide) hg)
          have G6 := Lib.hid (blk_grown (gb_blk HB5.out S6.out (gb_lt S6.out)) OF5.out (by decide) hg)
          have GC := Lib.hid (blk_grown (gb_blk HB5.out CUR.out hgd) OF5.out (by decide) hg)
          have GM := Lib.hid (own_grown (ow_below SM.out HB5.out) OF5.out (by decide) hg)
          have GR := Lib.hid (own_grown (ow_below SR.out HB5.out) OF5.out (by decide) hg)
          have GB := Lib.hid (ow_grown (SB.out.trans (HB5.out.mono (show q3 ≤ wd.heap.size by omega))) hg (own_le OF5.out (show q3 ≤ B0 by omega)) (by have := HB5.out.size; omega))
          have GU : Hid (∀ (j : Nat) (v : RtV), rs[j]? = some v → j ≠ idx → OwnRt w6 B0 v) := Lib.hid fun j v hj hne => by
            have h := (SU.out v (List.mem_of_getElem? hj)).below HB5.out
            have ap := apart_at HPW.out HU.out hj hne
            exact ⟨own_grown h.nets OF5.out (by decide) hg, own_grown h.links OF5.out (by decide) hg, own_grown2 h.stats (fun k h1 h2 => ap.stats k h2 h1) hg⟩
          have GX := Lib.hid (own_grown (ow_below hus2.out.nets HB5.out) OF5.out (by decide) hg)
          have GY := Lib.hid (own_grown (ow_below hus2.out.links HB5.out) OF5.out (by decide) hg)
          clear ho hg hat hlt6
          have fr6 := gb_free GC.out (idx * 5 + 3)
          refine hK.out _ _ ?_ (fun hHeld2 => ?_)
          · exact own_cell rtc_len GR.out HU.out 3 (by omega)
          clear hK K hHeld
          have hHeld := hHeld2
          clear hHeld2
          try simp only [Act.put, List.setIfInBounds_toArray, List.set_cons_zero, List.set_cons_succ]
          refine Mq.T_take 13 (v := ?_) rfl (by kernel_rfl) (by kernel_rfl) (by kernel_rfl) (by kernel_rfl) (by kernel_rfl) (by kernel_rfl) (by kernel_rfl) (fun _ _ _ h => h) (by rfl) hHeld ?_ ?_
          rotate_left
          · (intro w hSw; (try dsimp only at hSw); go_simp; (try with_reducible rfl))
          try simp only [Act.put, List.setIfInBounds_toArray, List.set_cons_zero, List.set_cons_succ]
          refine Mq.T_take 14 (v := ?_) rfl (by kernel_rfl) (by kernel_rfl) (by kernel_rfl) (by kernel_rfl) (by kernel_rfl) (by kernel_rfl) (by kernel_rfl) (fun _ _ _ h => h) (by rfl) hHeld ?_ ?_
          rotate_left
          · (intro w hSw; (try dsimp only at hSw); go_simp; (try with_reducible rfl))
          try simp only [Act.put, List.setIfInBounds_toArray, List.set_cons_zero, List.set_cons_succ]
          refine Mq.T_last (by kernel_rfl) rfl (fun K hK => ?_)
          go_simp
          refine hK.out _ _ ?_
          clear hK K hHeld
          try simp only [Act.put, List.setIfInBounds_toArray, List.set_cons_zero, List.set_cons_succ]
          refine wpAny_done (by kernel_rfl) ?_ _
          refine NoPanic.normal ?_
          go_upto_region 38 with fail
          clear em em2 c0 c1 c2 c3 d0 fr q0 q1 fr6 hbe
          clear ek0 ek1 ek2 ek3 ek4
          have t7 := gb_far G7.out (p := ⟨gr, idx * 5 + 3, none⟩) (show q3 + 1 + 1 ≠ gr by omega) (.slice (some ⟨g2, 0, none⟩) (u.stats.l.length + 1) c6)
          have t6 := gb_far G6.out (p := ⟨gr, idx * 5 + 3, none⟩) (show q3 + 1 ≠ gr by omega) (.slice (some ⟨g2, 0, none⟩) (u.stats.l.length + 1) c6)
          have om := own_store GM.out GC.out (by decide) (idx * 5 + 3) (.slice (some ⟨g2, 0, none⟩) (u.stats.l.length + 1) c6)
          obtain ⟨u', hu'⟩ : ∃ u' : RtV, u' = ⟨u.name, u.nets, u.links, ⟨some ⟨g2, 0, none⟩, c6, u.stats.l ++ [(⟨⟨0, 0⟩, nm8, 8⟩ : StV)]⟩, u.at_⟩ := ⟨_, rfl⟩
          have orr : (w6.setCell ⟨gr, idx * 5 + 3, none⟩ (.slice (some ⟨g2, 0, none⟩) (u.stats.l.length + 1) c6)).ownsRow B0 48 5 (.slice (some ⟨gr, 0, none⟩) (rs.set idx u').length cr) (rs.set idx u').length ((rs.set idx u').flatMap rtc) := own_setE rtc_len GR.out HU.out (show 3 < 5 by omega) (by rw [hu']; first | rfl | simp [rtc])
          have hfu : FinOk (w6.setCell ⟨gr, idx * 5 + 3, none⟩ (.slice (some ⟨g2, 0, none⟩) (u.stats.l.length + 1) c6)) B0 (2 * N + 1) u' := by
            rw [hu']
            exact (by
              have hn := own_store (own_snoc (enc := stc) (a := (⟨⟨0, 0⟩, nm8, 8⟩ : StV)) (l := u.stats.l) GN.out) GC.out (by decide) (idx * 5 + 3) (.slice (some ⟨g2, 0, none⟩) (u.stats.l.length + 1) c6)
              exact OwnRt.fin (u := ⟨u.name, u.nets, u.links, ⟨some ⟨g2, 0, none⟩, c6, u.stats.l ++ [(⟨⟨0, 0⟩, nm8, 8⟩ : StV)]⟩, u.at_⟩) ⟨own_store GX.out GC.out (by decide) _ _, own_store GY.out GC.out (by decide) _ _, hn⟩ ⟨by simp only; omega, by simp only; omega, by simp only [List.length_append, List.length_cons, List.length_nil]; omega⟩)
          have hall : ∀ v ∈ rs.set idx u', FinOk (w6.setCell ⟨gr, idx * 5 + 3, none⟩ (.slice (some ⟨g2, 0, none⟩) (u.stats.l.length + 1) c6)) B0 (2 * N + 1) v := set_all (fun j v hj hne => ((GU.out j v hj hne).store GC.out (idx * 5 + 3) (.slice (some ⟨g2, 0, none⟩) (u.stats.l.length + 1) c6) (by decide)).fin ((SBD.out v (List.mem_of_getElem? hj)).le (by omega))) hfu
          have hbb : Below q3 w (w6.setCell ⟨gr, idx * 5 + 3, none⟩ (.slice (some ⟨g2, 0, none⟩) (u.stats.l.length + 1) c6)) := Below.setCell GB.out (show q3 ≤ gr by omega) (.slice (some ⟨g2, 0, none⟩) (u.stats.l.length + 1) c6)
          obtain ⟨rs', hrs', hlen⟩ : ∃ rs', rs' = rs.set idx u' ∧ rs'.length = rs.length := ⟨_, rfl, List.length_set⟩
          rw [← hrs'] at orr hall
          rw [← hlen] at t7
          have hlN : rs'.length ≤ N := by omega
          generalize w6.setCell ⟨gr, idx * 5 + 3, none⟩ (.slice (some ⟨g2, 0, none⟩) (u.stats.l.length + 1) c6) = wz at *
          have Z7 := Lib.hid t7; have Z6 := Lib.hid t6; have ZM := Lib.hid om; have ZR := Lib.hid orr; have ZU := Lib.hid hall; have ZB := Lib.hid hbb
          clear t7 t6 om orr hall hbb hfu hu' hrs' hlen
          obtain ⟨q0, q1⟩ := gb_cells2 Z7.out
          obtain ⟨y0, y1⟩ := gb_cells2 Z6.out
          have f0 := gb_free Z6.out 0
          have f1 := gb_free Z6.out 1
          have l6 := gb_lt Z6.out
          go_wp2_with fail
          clear q0 q1 y0 y1 f0 f1
          obtain ⟨t6, hcf, hbc, hbl⟩ := turn_fin (N := 2 * N + 1) (w := w) Z6.out (by omega) ZM.out ZR.out ZU.out (by have := HQ.out; omega) (by have := ZB.out; rwa [HQ.out] at this) (by omega) (by omega)
          generalize (wz.setCell ⟨q3 + 1, 0, none⟩ (.slice Am c.maps.l.length cm)).setCell ⟨q3 + 1, 1, none⟩ (.slice (some ⟨gr, 0, none⟩) rs'.length cr) = wy at *
          obtain ⟨y0, y1⟩ := gb_cells2 t6
          refine bodyPost_ret (v := .agg #[.slice Am c.maps.l.length cm, .slice (some ⟨gr, 0, none⟩) rs'.length cr]) (by simp [results, Tryd.results11, go_sem, y0, y1]) rfl ⟨⟨⟨Am, cm, c.maps.l⟩, ⟨some ⟨gr, 0, none⟩, cr, rs'⟩⟩, rfl, hcf, hbc, hbl⟩
        · have em : (h8 : Int).tmod 8 = 6 := by rw [Int.tmod_eq_emod_of_nonneg (Int.natCast_nonneg h8)]; have := HM.out; omega
          have em2 : IntKind.u8.wrap (6 : Int) = 6 := by decide
          have SF : Hid (∀ w', Below wd.heap.size wd w' → Sli stc 4 w' wd.heap.size u.stats.A u.stats.l) := Lib.hid fun w' hb => (Sli.of_own stc_len (by omega) hus2.out.stats).below hb
          go_upto_region 37 with fail
          have hbe := (Below.refl wd.heap.size wd).drew
          refine wp_region_noPanic ?_
          refine Mq.wp_region_T 13 (fun w' => w'.cell? ⟨gr, idx * 5 + 3, none⟩ = some (.slice u.stats.A u.stats.l.length u.stats.cap)) (by kernel_rfl) ?_ (fun hHeld => ?_)
          · exact c3
          generalize wd.drew = we at *
          refine Mq.T_take 0 (v := ?_) rfl (by kernel_rfl) (by kernel_rfl) (by kernel_rfl) (by kernel_rfl) (by kernel_rfl) (by kernel_rfl) (by kernel_rfl) (fun _ _ _ h => h) (by rfl) hHeld ?_ ?_
          rotate_left
          · (intro w hSw; (try dsimp only at hSw); go_simp; (try with_reducible rfl))
          try simp only [Act.put, List.setIfInBounds_toArray, List.set_cons_zero, List.set_cons_succ]
          refine Mq.T_take 1 (v := ?_) rfl (by kernel_rfl) (by kernel_rfl) (by kernel_rfl) (by kernel_rfl) (by kernel_rfl) (by kernel_rfl) (by kernel_rfl) (fun _ _ _ h => h) (by rfl) hHeld ?_ ?_
          rotate_left
          · (intro w hSw; (try dsimp only at hSw); go_simp; (try with_reducible rfl))
          try simp only [Act.put, List.setIfInBounds_toArray, List.set_cons_zero, List.set_cons_succ]
          refine Mq.T_take 2 (v := ?_) rfl (by kernel_rfl) (by kernel_rfl) (by kernel_rfl) (by kernel_rfl) (by kernel_rfl) (by kernel_rfl) (by kernel_rfl) (fun _ _ _ h => h) (by rfl) hHeld ?_ ?_
          rotate_left
          · (intro w hSw; (try dsimp only at hSw); go_simp; (try with_reducible rfl))
          try simp only [Act.put, List.setIfInBounds_toArray, List.set_cons_zero, List.set_cons_succ]
          refine Mq.T_take 3 (v := ?_) rfl (by kernel_rfl) (by kernel_rfl) (by kernel_rfl) (by kernel_rfl) (by kernel_rfl) (by kernel_rfl) (by kernel_rfl) (fun _ _ _ h => h) (by rfl) hHeld ?_ ?_
          rotate_left
          · (intro w hSw; (try dsimp only at hSw); go_simp; (try with_reducible rfl))
          try simp only [Act.put, List.setIfInBounds_toArray, List.set_cons_zero, List.set_cons_succ]
          refine Mq.T_take 4 (v := ?_) rfl (by kernel_rfl) (by kernel_rfl) (by kernel_rfl) (by kernel_rfl) (by kernel_rfl) (by kernel_rfl) (by kernel_rfl) (fun _ _ _ h => h) (by rfl) hHeld ?_ ?_
          rotate_left
          · (intro w hSw; (try dsimp only at hSw); go_simp; (try with_reducible rfl))
          try simp only [Act.put, List.setIfInBounds_toArray, List.set_cons_zero, List.set_cons_succ]
          refine Mq.T_take 6 (v := ?_) rfl (by kernel_rfl) (by kernel_rfl) (by kernel_rfl) (by kernel_rfl) (by kernel_rfl) (by kernel_rfl) (by kernel_rfl) (fun _ _ _ h => h) (by rfl) hHeld ?_ ?_
          rotate_left
          · (intro w hSw; (try dsimp only at hSw); go_simp; (try with_reducible rfl))
          try simp only [Act.put, List.setIfInBounds_toArray, List.set_cons_zero, List.set_cons_succ]
          refine Mq.T_take 7 (v := ?_) rfl (by kernel_rfl) (by kernel_rfl) (by kernel_rfl) (by kernel_rfl) (by kernel_rfl) (by kernel_rfl) (by kernel_rfl) (fun _ _ _ h => h) (by rfl) hHeld ?_ ?_
          rotate_left
          · (intro w hSw; (try dsimp only at hSw); go_simp; (try with_reducible rfl))
          try simp only [Act.put, List.setIfInBounds_toArray, List.set_cons_zero, List.set_cons_succ]
          refine Mq.T_take 8 (v := ?_) rfl (by kernel_rfl) (by kernel_rfl) (by kernel_rfl) (by kernel_rfl) (by kernel_rfl) (by kernel_rfl) (by kernel_rfl) (fun _ _ _ h => h) (by rfl) hHeld ?_ ?_
          rotate_left
          · (intro w hSw; (try dsimp only at hSw); go_simp; (try with_reducible rfl))
          try simp only [Act.put, List.setIfInBounds_toArray, List.set_cons_zero, List.set_cons_succ]
          refine Mq.T_take 9 (v := ?_) rfl (by kernel_rfl) (by kernel_rfl) (by kernel_rfl) (by kernel_rfl) (by kernel_rfl) (by kernel_rfl) (by kernel_rfl) (fun _ _ _ h => h) (by rfl) hHeld ?_ ?_
          rotate_left
          · (intro w hSw; (try dsimp only at hSw); go_simp; (try with_reducible rfl))
          try simp only [Act.put, List.setIfInBounds_toArray, List.set_cons_zero, List.set_cons_succ]
          refine Mq.T_step 5 (by kernel_rfl) (by kernel_rfl) rfl (fun K hK => ?_)
          refine step_append_sli0 (by rfl) _ _ _ (by rfl) wd.heap.size 70 is _ 40 Tryd.underlying46 IS.out IS0.out IS1.out IS2.out rfl (by omega) (by rfl) u.stats.A u.stats.cap u.stats.l (by rfl) (SF.out _ hbe) stc_len stc_one (by unfold maxLen; omega) (by omega) hbe.size ?_
          intro A5 c5 w5 ho hb
          have OA5 := Lib.hid ho
          have HB5 := Lib.hid (hbe.trans (hb.mono hbe.size))
          clear ho hb
          refine hK.out _ _ ?_ (fun hHeld2 => ?_)
          · exact (HB5.out.cell (p := ⟨gr, idx * 5 + 3, none⟩) hgd).trans c3
          clear hK K hHeld
          have hHeld := hHeld2
          clear hHeld2
          try simp only [Act.put, List.setIfInBounds_toArray, List.set_cons_zero, List.set_cons_succ]
          refine Mq.T_step 10 (by kernel_rfl) (by kernel_rfl) rfl (fun K hK => ?_)
          refine step_append_sli (by rfl) _ _ _ (by rfl) wd.heap.size 70 is _ 40 Tryd.underlying46 IS.out IS0.out IS1.out IS2.out rfl (by omega) (.slice A5 u.stats.l.length c5) u.stats.l.length (u.stats.l.flatMap stc) (by rfl) OA5.out u.stats.A u.stats.cap u.stats.l (by rfl) (SF.out _ HB5.out) stc_len stc_one (by unfold maxLen; omega) (by omega) HB5.out.size ?_
          intro A6 c6 w6 ho hg hat
          have OA6 := Lib.hid ho
          have HB6 := Lib.hid (ow_grown HB5.out hg OA5.out HB5.out.size)
          clear ho hg hat
          have fr6 := gb_free (gb_blk HB6.out CUR.out hgd) (idx * 5 + 3)
          refine hK.out _ _ ?_ (fun hHeld2 => ?_)
          · exact (HB6.out.cell (p := ⟨gr, idx * 5 + 3, none⟩) hgd).trans c3
          clear hK K hHeld
          have hHeld := hHeld2
          clear hHeld2
          try simp only [Act.put, List.setIfInBounds_toArray, List.set_cons_zero, List.set_cons_succ]
          refine Mq.T_take 11 (v := ?_) rfl (by kernel_rfl) (by kernel_rfl) (by kernel_rfl) (by kernel_rfl) (by kernel_rfl) (by kernel_rfl) (by kernel_rfl) (fun _ _ _ h => h) (by rfl) hHeld ?_ ?_
          rotate_left
          · (intro w hSw; (try dsimp only at hSw); go_simp; (try with_reducible rfl))
          try simp only [Act.put, List.setIfInBounds_toArray, List.set_cons_zero, List.set_cons_succ]
          refine Mq.T_take 12 (v := ?_) rfl (by kernel_rfl) (by kernel_rfl) (by kernel_rfl) (by kernel_rfl) (by kernel_rfl) (by kernel_rfl) (by kernel_rfl) (fun _ _ _ h => h) (by rfl) hHeld ?_ ?_
          rotate_left
          · (intro w hSw; (try dsimp only at hSw); go_simp; (try with_reducible rfl))
          try simp only [Act.put, List.setIfInBounds_toArray, List.set_cons_zero, List.set_cons_succ]
          refine Mq.T_last (by kernel_rfl) rfl (fun K hK => ?_)
          go_simp
          refine hK.out _ _ ?_
          clear hK K hHeld
          try simp only [Act.put, List.setIfInBounds_toArray, List.set_cons_zero, List.set_cons_succ]
          refine wpAny_done (by kernel_rfl) ?_ _
          refine NoPanic.normal ?_
          go_upto_region 38 with fail
          clear em em2 c0 c1 c2 c3 d0 fr q0 q1 fr6 hbe OA5 HB5
          have G7 := Lib.hid (gb_blk HB6.out S7.out (gb_lt S7.out)); have G6 := Lib.hid (gb_blk HB6.out S6.out (gb_lt S6.out)); have GM := Lib.hid (ow_below SM.out HB6.out); have GR := Lib.hid (ow_below SR.out HB6.out); have GC := Lib.hid (gb_blk HB6.out CUR.out hgd); have GB := Lib.hid (SB.out.trans (HB6.out.mono (show q3 ≤ wd.heap.size by omega)))
          have GU := Lib.hid (fun (j : Nat) (v : RtV) (hj : rs[j]? = some v) (_ : j ≠ idx) => (SU.out v (List.mem_of_getElem? hj)).below HB6.out)
          have GX := Lib.hid (hus2.out.below HB6.out)
          have t7 := gb_far G7.out (p := ⟨gr, idx * 5 + 3, none⟩) (show q3 + 1 + 1 ≠ gr by omega) (.slice A6 (u.stats.l.length + u.stats.l.length) c6)
          have t6 := gb_far G6.out (p := ⟨gr, idx * 5 + 3, none⟩) (show q3 + 1 ≠ gr by omega) (.slice A6 (u.stats.l.length + u.stats.l.length) c6)
          have om := own_store GM.out GC.out (by decide) (idx * 5 + 3) (.slice A6 (u.stats.l.length + u.stats.l.length) c6)
          obtain ⟨u', hu'⟩ : ∃ u' : RtV, u' = ⟨u.name, u.nets, u.links, ⟨A6, c6, u.stats.l ++ u.stats.l⟩, u.at_⟩ := ⟨_, rfl⟩
          have orr : (w6.setCell ⟨gr, idx * 5 + 3, none⟩ (.slice A6 (u.stats.l.length + u.stats.l.length) c6)).ownsRow B0 48 5 (.slice (some ⟨gr, 0, none⟩) (rs.set idx u').length cr) (rs.set idx u').length ((rs.set idx u').flatMap rtc) := own_setE rtc_len GR.out HU.out (show 3 < 5 by omega) (by rw [hu']; first | rfl | simp [rtc])
          have hfu : FinOk (w6.setCell ⟨gr, idx * 5 + 3, none⟩ (.slice A6 (u.stats.l.length + u.stats.l.length) c6)) B0 (2 * N + 1) u' := by
            rw [hu']
            exact (by
              have hx := GX.out.store GC.out (idx * 5 + 3) (.slice A6 (u.stats.l.length + u.stats.l.length) c6) (by decide)
              have hn := own_store (own_le OA6.out (show B0 ≤ wd.heap.size by omega)) GC.out (by decide) (idx * 5 + 3) (.slice A6 (u.stats.l.length + u.stats.l.length) c6)
              exact OwnRt.fin (u := ⟨u.name, u.nets, u.links, ⟨A6, c6, u.stats.l ++ u.stats.l⟩, u.at_⟩) ⟨hx.nets, hx.links, by simpa [List.flatMap_append] using hn⟩ ⟨by simp only; omega, by simp only; omega, by simp only [List.length_append]; omega⟩)
          have hall : ∀ v ∈ rs.set idx u', FinOk (w6.setCell ⟨gr, idx * 5 + 3, none⟩ (.slice A6 (u.stats.l.length + u.stats.l.length) c6)) B0 (2 * N + 1) v := set_all (fun j v hj hne => ((GU.out j v hj hne).store GC.out (idx * 5 + 3) (.slice A6 (u.stats.l.length + u.stats.l.length) c6) (by decide)).fin ((SBD.out v (List.mem_of_getElem? hj)).le (by omega))) hfu
          have hbb : Below q3 w (w6.setCell ⟨gr, idx * 5 + 3, none⟩ (.slice A6 (u.stats.l.length + u.stats.l.length) c6)) := Below.setCell GB.out (show q3 ≤ gr by omega) (.slice A6 (u.stats.l.length + u.stats.l.length) c6)
          obtain ⟨rs', hrs', hlen⟩ : ∃ rs', rs' = rs.set idx u' ∧ rs'.length = rs.length := ⟨_, rfl, List.length_set⟩
          rw [← hrs'] at orr hall
          rw [← hlen] at t7
          have hlN : rs'.length ≤ N := by omega
          generalize w6.setCell ⟨gr, idx * 5 + 3, none⟩ (.slice A6 (u.stats.l.length + u.stats.l.length) c6) = wz at *
          have Z7 := Lib.hid t7; have Z6 := Lib.hid t6; have ZM := Lib.hid om; have ZR := Lib.hid orr; have ZU := Lib.hid hall; have ZB := Lib.hid hbb
          clear t7 t6 om orr hall hbb hfu hu' hrs' hlen
          obtain ⟨q0, q1⟩ := gb_cells2 Z7.out
          obtain ⟨y0, y1⟩ := gb_cells2 Z6.out
          have f0 := gb_free Z6.out 0
          have f1 := gb_free Z6.out 1
          have l6 := gb_lt Z6.out
          go_wp2_with fail
          clear q0 q1 y0 y1 f0 f1
          obtain ⟨t6, hcf, hbc, hbl⟩ := turn_fin (N := 2 * N + 1) (w := w) Z6.out (by omega) ZM.out ZR.out ZU.out (by have := HQ.out; omega) (by have := ZB.out; rwa [HQ.out] at this) (by omega) (by omega)
          generalize (wz.setCell ⟨q3 + 1, 0, none⟩ (.slice Am c.maps.l.length cm)).setCell ⟨q3 + 1, 1, none⟩ (.slice (some ⟨gr, 0, none⟩) rs'.length cr) = wy at *
          obtain ⟨y0, y1⟩ := gb_cells2 t6
          refine bodyPost_ret (v := .agg #[.slice Am c.maps.l.length cm, .slice (some ⟨gr, 0, none⟩) rs'.length cr]) (by simp [results, Tryd.results11, go_sem, y0, y1]) rfl ⟨⟨⟨Am, cm, c.maps.l⟩, ⟨some ⟨gr, 0, none⟩, cr, rs'⟩⟩, rfl, hcf, hbc, hbl⟩
        · have em : (h8 : Int).tmod 8 = 7 := by rw [Int.tmod_eq_emod_of_nonneg (Int.natCast_nonneg h8)]; have := HM.out; omega
          have em2 : IntKind.u8.wrap (7 : Int) = 7 := by decide
          have SF : Hid (∀ w', Below wd.heap.size wd w' → Sli lkc 5 w' wd.heap.size u.links.A u.links.l) := Lib.hid fun w' hb => (Sli.of_own lkc_len (by omega) hus2.out.links).below hb
          go_upto_region 21 with fail
          have hbe := (Below.refl wd.heap.size wd).drew
          refine wp_region_noPanic ?_
          refine Mq.wp_region_T 13 (fun w' => w'.cell? ⟨gr, idx * 5 + 2, none⟩ = some (.slice u.links.A u.links.l.length u.links.cap)) (by kernel_rfl) ?_ (fun hHeld => ?_)
          · exact c2
          generalize wd.drew = we at *
          refine Mq.T_take 0 (v := ?_) rfl (by kernel_rfl) (by kernel_rfl) (by kernel_rfl) (by kernel_rfl) (by kernel_rfl) (by kernel_rfl) (by kernel_rfl) (fun _ _ _ h => h) (by rfl) hHeld ?_ ?_
          rotate_left
          · (intro w hSw; (try dsimp only at hSw); go_simp; (try with_reducible rfl))
          try simp only [Act.put, List.setIfInBounds_toArray, List.set_cons_zero, List.set_cons_succ]
          refine Mq.T_take 1 (v := ?_) rfl (by kernel_rfl) (by kernel_rfl) (by kernel_rfl) (by kernel_rfl) (by kernel_rfl) (by kernel_rfl) (by kernel_rfl) (fun _ _ _ h => h) (by rfl) hHeld ?_ ?_
          rotate_left
          · (intro w hSw; (try dsimp only at hSw); go_simp; (try with_reducible rfl))
          try simp only [Act.put, List.setIfInBounds_toArray, List.set_cons_zero, List.set_cons_succ]
          refine Mq.T_take 2 (v := ?_) rfl (by kernel_rfl) (by kernel_rfl) (by kernel_rfl) (by kernel_rfl) (by kernel_rfl) (by kernel_rfl) (by kernel_rfl) (fun _ _ _ h => h) (by rfl) hHeld ?_ ?_
          rotate_left
          · (intro w hSw; (try dsimp only at hSw); go_simp; (try with_reducible rfl))
          try simp only [Act.put, List.setIfInBounds_toArray, List.set_cons_zero, List.set_cons_succ]
          refine Mq.T_take 3 (v := ?_) rfl (by kernel_rfl) (by kernel_rfl) (by kernel_rfl) (by kernel_rfl) (by kernel_rfl) (by kernel_rfl) (by kernel_rfl) (fun _ _ _ h => h) (by rfl) hHeld ?_ ?_
          rotate_left
          · (intro w hSw; (try dsimp only at hSw); go_simp; (try with_reducible rfl))
          try simp only [Act.put, List.setIfInBounds_toArray, List.set_cons_zero, List.set_cons_succ]
          refine Mq.T_take 4 (v := ?_) rfl (by kernel_rfl) (by kernel_rfl) (by kernel_rfl) (by kernel_rfl) (by kernel_rfl) (by kernel_rfl) (by kernel_rfl) (fun _ _ _ h => h) (by rfl) hHeld ?_ ?_
          rotate_left
          · (intro w hSw; (try dsimp only at hSw); go_simp; (try with_reducible rfl))
          try simp only [Act.put, List.setIfInBounds_toArray, List.set_cons_zero, List.set_cons_succ]
          refine Mq.T_take 6 (v := ?_) rfl (by kernel_rfl) (by kernel_rfl) (by kernel_rfl) (by kernel_rfl) (by kernel_rfl) (by kernel_rfl) (by kernel_rfl) (fun _ _ _ h => h) (by rfl) hHeld ?_ ?_
          rotate_left
          · (intro w hSw; (try dsimp only at hSw); go_simp; (try with_reducible rfl))
          try simp only [Act.put, List.setIfInBounds_toArray, List.set_cons_zero, List.set_cons_succ]
          refine Mq.T_take 7 (v := ?_) rfl (by kernel_rfl) (by kernel_rfl) (by kernel_rfl) (by kernel_rfl) (by kernel_rfl) (by kernel_rfl) (by kernel_rfl) (fun _ _ _ h => h) (by rfl) hHeld ?_ ?_
          rotate_left
          · (intro w hSw; (try dsimp only at hSw); go_simp; (try with_reducible rfl))
          try simp only [Act.put, List.setIfInBounds_toArray, List.set_cons_zero, List.set_cons_succ]
          refine Mq.T_take 8 (v := ?_) rfl (by kernel_rfl) (by kernel_rfl) (by kernel_rfl) (by kernel_rfl) (by kernel_rfl) (by kernel_rfl) (by kernel_rfl) (fun _ _ _ h => h) (by rfl) hHeld ?_ ?_
          rotate_left
          · (intro w hSw; (try dsimp only at hSw); go_simp; (try with_reducible rfl))
          try simp only [Act.put, List.setIfInBounds_toArray, List.set_cons_zero, List.set_cons_succ]
          refine Mq.T_take 9 (v := ?_) rfl (by kernel_rfl) (by kernel_rfl) (by kernel_rfl) (by kernel_rfl) (by kernel_rfl) (by kernel_rfl) (by kernel_rfl) (fun _ _ _ h => h) (by rfl) hHeld ?_ ?_
          rotate_left
          · (intro w hSw; (try dsimp only at hSw); go_simp; (try with_reducible rfl))
          try simp only [Act.put, List.setIfInBounds_toArray, List.set_cons_zero, List.set_cons_succ]
          refine Mq.T_step 5 (by kernel_rfl) (by kernel_rfl) rfl (fun K hK => ?_)
          refine step_append_sli0 (by rfl) _ _ _ (by rfl) wd.heap.size 50 il _ 64 Tryd.underlying45 IL.out IL0.out IL1.out IL2.out rfl (by omega) (by rfl) u.links.A u.links.cap u.links.l (by rfl) (SF.out _ hbe) lkc_len lkc_one (by unfold maxLen; omega) (by omega) hbe.size ?_
          intro A5 c5 w5 ho hb
          have OA5 := Lib.hid ho
          have HB5 := Lib.hid (hbe.trans (hb.mono hbe.size))
          clear ho hb
          refine hK.out _ _ ?_ (fun hHeld2 => ?_)
          · exact (HB5.out.cell (p := ⟨gr, idx * 5 + 2, none⟩) hgd).trans c2
          clear hK K hHeld
          have hHeld := hHeld2
          clear hHeld2
          try simp only [Act.put, List.setIfInBounds_toArray, List.set_cons_zero, List.set_cons_succ]
          refine Mq.T_step 10 (by kernel_rfl) (by kernel_rfl) rfl (fun K hK => ?_)
          refine step_append_sli (by rfl) _ _ _ (by rfl) wd.heap.size 50 il _ 64 Tryd.underlying45 IL.out IL0.out IL1.out IL2.out rfl (by omega) (.slice A5 u.links.l.length c5) u.links.l.length (u.links.l.flatMap lkc) (by rfl) OA5.out u.links.A u.links.cap u.links.l (by rfl) (SF.out _ HB5.out) lkc_len lkc_one (by unfold maxLen; omega) (by omega) HB5.out.size ?_
          intro A6 c6 w6 ho hg hat
          have OA6 := Lib.hid ho
          have HB6 := Lib.hid (ow_grown HB5.out hg OA5.out HB5.out.size)
          clear ho hg hat
          have fr6 := gb_free (gb_blk HB6.out CUR.out hgd) (idx * 5 + 2)
          refine hK.out _ _ ?_ (fun hHeld2 => ?_)
          · exact (HB6.out.cell (p := ⟨gr, idx * 5 + 2, none⟩) hgd).trans c2
          clear hK K hHeld
          have hHeld := hHeld2
          clear hHeld2
          try simp only [Act.put, List.setIfInBounds_toArray, List.set_cons_zero, List.set_cons_succ]
          refine Mq.T_take 11 (v := ?_) rfl (by kernel_rfl) (by kernel_rfl) (by kernel_rfl) (by kernel_rfl) (by kernel_rfl) (by kernel_rfl) (by kernel_rfl) (fun _ _ _ h => h) (by rfl) hHeld ?_ ?_
          rotate_left
          · (intro w hSw; (try dsimp only at hSw); go_simp; (try with_reducible rfl))
          try simp only [Act.put, List.setIfInBounds_toArray, List.set_cons_zero, List.set_cons_succ]
          refine Mq.T_take 12 (v := ?_) rfl (by kernel_rfl) (by kernel_rfl) (by kernel_rfl) (by kernel_rfl) (by kernel_rfl) (by kernel_rfl) (by kernel_rfl) (fun _ _ _ h => h) (by rfl) hHeld ?_ ?_
          rotate_left
          · (intro w hSw; (try dsimp only at hSw); go_simp; (try with_reducible rfl))
          try simp only [Act.put, List.setIfInBounds_toArray, List.set_cons_zero, List.set_cons_succ]
          refine Mq.T_last (by kernel_rfl) rfl (fun K hK => ?_)
          go_simp
          refine hK.out _ _ ?_
          clear hK K hHeld
          try simp only [Act.put, List.setIfInBounds_toArray, List.set_cons_zero, List.set_cons_succ]
          refine wpAny_done (by kernel_rfl) ?_ _
          refine NoPanic.normal ?_
          go_upto_region 38 with fail
          clear em em2 c0 c1 c2 c3 d0 fr q0 q1 fr6 hbe OA5 HB5
          have G7 := Lib.hid (gb_blk HB6.out S7.out (gb_lt S7.out)); have G6 := Lib.hid (gb_blk HB6.out S6.out (gb_lt S6.out)); have GM := Lib.hid (ow_below SM.out HB6.out); have GR := Lib.hid (ow_below SR.out HB6.out); have GC := Lib.hid (gb_blk HB6.out CUR.out hgd); have GB := Lib.hid (SB.out.trans (HB6.out.mono (show q3 ≤ wd.heap.size by omega)))
          have GU := Lib.hid (fun (j : Nat) (v : RtV) (hj : rs[j]? = some v) (_ : j ≠ idx) => (SU.out v (List.mem_of_getElem? hj)).below HB6.out)
          have GX := Lib.hid (hus2.out.below HB6.out)
          have t7 := gb_far G7.out (p := ⟨gr, idx * 5 + 2, none⟩) (show q3 + 1 + 1 ≠ gr by omega) (.slice A6 (u.links.l.length + u.links.l.length) c6)
          have t6 := gb_far G6.out (p := ⟨gr, idx * 5 + 2, none⟩) (show q3 + 1 ≠ gr by omega) (.slice A6 (u.links.l.length + u.links.l.length) c6)
          have om := own_store GM.out GC.out (by decide) (idx * 5 + 2) (.slice A6 (u.links.l.length + u.links.l.length) c6)
          obtain ⟨u', hu'⟩ : ∃ u' : RtV, u' = ⟨u.name, u.nets, ⟨A6, c6, u.links.l ++ u.links.l⟩, u.stats, u.at_⟩ := ⟨_, rfl⟩
          have orr : (w6.setCell ⟨gr, idx * 5 + 2, none⟩ (.slice A6 (u.links.l.length + u.links.l.length) c6)).ownsRow B0 48 5 (.slice (some ⟨gr, 0, none⟩) (rs.set idx u').length cr) (rs.set idx u').length ((rs.set idx u').flatMap rtc) := own_setE rtc_len GR.out HU.out (show 2 < 5 by omega) (by rw [hu']; first | rfl | simp [rtc])
          have hfu : FinOk (w6.setCell ⟨gr, idx * 5 + 2, none⟩ (.slice A6 (u.links.l.length + u.links.l.length) c6)) B0 (2 * N + 1) u' := by
            rw [hu']
            exact (by
              have hx := GX.out.store GC.out (idx * 5 + 2) (.slice A6 (u.links.l.length + u.links.l.length) c6) (by decide)
              have hn := own_store (own_le OA6.out (show B0 ≤ wd.heap.size by omega)) GC.out (by decide) (idx * 5 + 2) (.slice A6 (u.links.l.length + u.links.l.length) c6)
              exact OwnRt.fin (u := ⟨u.name, u.nets, ⟨A6, c6, u.links.l ++ u.links.l⟩, u.stats, u.at_⟩) ⟨hx.nets, by simpa [List.flatMap_append] using hn, hx.stats⟩ ⟨by simp only; omega, by simp only [List.length_append]; omega, by simp only; omega⟩)
          have hall : ∀ v ∈ rs.set idx u', FinOk (w6.setCell ⟨gr, idx * 5 + 2, none⟩ (.slice A6 (u.links.l.length + u.links.l.length) c6)) B0 (2 * N + 1) v := set_all (fun j v hj hne => ((GU.out j v hj hne).store GC.out (idx * 5 + 2) (.slice A6 (u.links.l.length + u.links.l.length) c6) (by decide)).fin ((SBD.out v (List.mem_of_getElem? hj)).le (by omega))) hfu
          have hbb : Below q3 w (w6.setCell ⟨gr, idx * 5 + 2, none⟩ (.slice A6 (u.links.l.length + u.links.l.length) c6)) := Below.setCell GB.out (show q3 ≤ gr by omega) (.slice A6 (u.links.l.length + u.links.l.length) c6)
          obtain ⟨rs', hrs', hlen⟩ : ∃ rs', rs' = rs.set idx u' ∧ rs'.length = rs.length := ⟨_, rfl, List.length_set⟩
          rw [← hrs'] at orr hall
          rw [← hlen] at t7
          have hlN : rs'.length ≤ N := by omega
          generalize w6.setCell ⟨gr, idx * 5 + 2, none⟩ (.slice A6 (u.links.l.length + u.links.l.length) c6) = wz at *
          have Z7 := Lib.hid t7; have Z6 := Lib.hid t6; have ZM := Lib.hid om; have ZR := Lib.hid orr; have ZU := Lib.hid hall; have ZB := Lib.hid hbb
          clear t7 t6 om orr hall hbb hfu hu' hrs' hlen
          obtain ⟨q0, q1⟩ := gb_cells2 Z7.out
          obtain ⟨y0, y1⟩ := gb_cells2 Z6.out
          have f0 := gb_free Z6.out 0
          have f1 := gb_free Z6.out 1
          have l6 := gb_lt Z6.out
          go_wp2_with fail
          clear q0 q1 y0 y1 f0 f1
          obtain ⟨t6, hcf, hbc, hbl⟩ := turn_fin (N := 2 * N + 1) (w := w) Z6.out (by omega) ZM.out ZR.out ZU.out (by have := HQ.out; omega) (by have := ZB.out; rwa [HQ.out] at this) (by omega) (by omega)
          generalize (wz.setCell ⟨q3 + 1, 0, none⟩ (.slice Am c.maps.l.length cm)).setCell ⟨q3 + 1, 1, none⟩ (.slice (some ⟨gr, 0, none⟩) rs'.length cr) = wy at *
          obtain ⟨y0, y1⟩ := gb_cells2 t6
          refine bodyPost_ret (v := .agg #[.slice Am c.maps.l.length cm, .slice (some ⟨gr, 0, none⟩) rs'.length cr]) (by simp [results, Tryd.results11, go_sem, y0, y1]) rfl ⟨⟨⟨Am, cm, c.maps.l⟩, ⟨some ⟨gr, 0, none⟩, cr, rs'⟩⟩, rfl, hcf, hbc, hbl⟩
end Go.Proofs.YteciceelinbfoaaDoor
