import Derived.Test.YteciceelinbfoaaDoorCn
set_option linter.unusedVariables false
namespace Go.Proofs.YteciceelinbfoaaDoor
open Go.RowKit Mq

def noRt : RtV := ⟨⟨#[]⟩, ⟨none, 0, []⟩, ⟨none, 0, []⟩, ⟨none, 0, []⟩, 0⟩
/-- The first router of a name. -/
def routerL (l : List RtV) (nm : ByteArray) : Option RtV := l.find? fun x => x.name.toList == nm.toList
theorem routerL_next {l : List RtV} {nm : ByteArray} {k : Nat} {x : RtV} (h : routerL (l.take k) nm = none) (hk : l[k]? = some x) : routerL (l.take (k + 1)) nm = if x.name.toList == nm.toList then some x else none := by
  unfold routerL at *
  rw [List.take_add_one, hk, List.find?_append, h]
  simp only [List.find?, Option.toList]
  cases hq : (x.name.toList == nm.toList) <;> simp [hq]
theorem routerL_found {l : List RtV} {nm : ByteArray} {k : Nat} {x : RtV} (h : routerL (l.take k) nm = none) (hk : l[k]? = some x) (hx : (x.name.toList == nm.toList) = true) : routerL l nm = some x := by
  have h2 := routerL_next h hk
  rw [if_pos hx] at h2
  unfold routerL at *
  rw [← List.take_append_drop (k + 1) l, List.find?_append, h2]; rfl
set_option maxRecDepth 100000 in
set_option maxHeartbeats 4000000 in
theorem router_any (r : CfV) (nm : ByteArray) (w : World) (hl : SlOk rtc 5 (fun _ _ => True) w r.rts) :
    Calls Tryd.prog 24 #[.agg #[.slice r.maps.A r.maps.l.length r.maps.cap, .slice r.rts.A r.rts.l.length r.rts.cap], .string nm] w
      fun e w' => e = .returned (.tuple #[.agg (rtc ((routerL r.rts.l nm).getD noRt)).toArray, .bool (routerL r.rts.l nm).isSome]) ∧ Below w.heap.size w w' := by
  have HL := Lib.hid hl
  have hle := hl.len_le
  clear hl
  go_enter Tryd.func24, Tryd.ntmps24
  go_wp2_with fail
  have b1 := gb_old _ (.cells #[.string ⟨#[]⟩, .slice none 0 0, .slice none 0 0, .slice none 0 0, .int .i64 0] 48) (gb_new w (.cells #[.slice r.maps.A r.maps.l.length r.maps.cap, .slice r.rts.A r.rts.l.length r.rts.cap] 33))
  have b2 := gb_new (w.alloc (.cells #[.slice r.maps.A r.maps.l.length r.maps.cap, .slice r.rts.A r.rts.l.length r.rts.cap] 33)) (.cells #[.string ⟨#[]⟩, .slice none 0 0, .slice none 0 0, .slice none 0 0, .int .i64 0] 48)
  have hB := gb_alloc (gb_alloc (Below.refl w.heap.size w) (.cells #[.slice r.maps.A r.maps.l.length r.maps.cap, .slice r.rts.A r.rts.l.length r.rts.cap] 33)) (.cells #[.string ⟨#[]⟩, .slice none 0 0, .slice none 0 0, .slice none 0 0, .int .i64 0] 48)
  simp only [World.size_alloc] at b2
  have hsz : w.heap.size + 1 < ((w.alloc (.cells #[.slice r.maps.A r.maps.l.length r.maps.cap, .slice r.rts.A r.rts.l.length r.rts.cap] 33)).alloc (.cells #[.string ⟨#[]⟩, .slice none 0 0, .slice none 0 0, .slice none 0 0, .int .i64 0] 48)).heap.size := by simp
  generalize (w.alloc (.cells #[.slice r.maps.A r.maps.l.length r.maps.cap, .slice r.rts.A r.rts.l.length r.rts.cap] 33)).alloc (.cells #[.string ⟨#[]⟩, .slice none 0 0, .slice none 0 0, .slice none 0 0, .int .i64 0] 48) = W0 at *
  have C2 := Lib.hid b2
  have B0 := Lib.hid hB
  clear b1 b2 hB
  go_loopw [11] (fun j wr => ∃ k : Nat, j = .int .i64 k ∧ k ≤ r.rts.l.length ∧ Hid (routerL (r.rts.l.take k) nm = none) ∧ Below W0.heap.size W0 wr) (fun j _ => r.rts.l.length - (intOf j).toNat)
  case atStart => exact ⟨0, rfl, by omega, Lib.hid rfl, Below.refl _ _⟩
  case round =>
    obtain ⟨k, rfl, hk, HN, hb⟩ := hrel
    have BQ := Lib.hid hb
    by_cases hlt : k < r.rts.l.length
    · obtain ⟨x, hx⟩ : ∃ x, r.rts.l[k]? = some x := ⟨_, List.getElem?_eq_getElem hlt⟩
      obtain ⟨b, off, hA, hbb, e0, e1, e2, e3, e4⟩ := rts_get ((HL.out.at_.below B0.out).below (hb.mono B0.out.size)) hx
      have HX := Lib.hid hx
      rw [hA]
      clear hx hb
      go_upto_region 4 with fail
      have t0 := gb_new wr (.cells #[.string x.name, .slice x.nets.A x.nets.l.length x.nets.cap, .slice x.links.A x.links.l.length x.links.cap, .slice x.stats.A x.stats.l.length x.stats.cap, .int .i64 x.at_] 48)
      have hbq := gb_trans BQ.out (gb_alloc (Below.refl wr.heap.size wr) (.cells #[.string x.name, .slice x.nets.A x.nets.l.length x.nets.cap, .slice x.links.A x.links.l.length x.links.cap, .slice x.stats.A x.stats.l.length x.stats.cap, .int .i64 x.at_] 48))
      obtain ⟨xb, hxb⟩ : ∃ n, n = wr.heap.size := ⟨_, rfl⟩
      have hxl : W0.heap.size ≤ xb := by rw [hxb]; exact BQ.out.size
      rw [← hxb] at t0 ⊢
      generalize wr.alloc (.cells #[.string x.name, .slice x.nets.A x.nets.l.length x.nets.cap, .slice x.links.A x.links.l.length x.links.cap, .slice x.stats.A x.stats.l.length x.stats.cap, .int .i64 x.at_] 48) = wu at *
      have T0 := Lib.hid t0
      have BU := Lib.hid hbq
      obtain ⟨z0, z1, z2, z3, z4⟩ := gb_cells5 t0
      clear t0 hbq e0 e1 e2 e3 e4 hxb
      cases hq : x.name.toList == nm.toList with
      | true =>
        have HF := Lib.hid (routerL_found HN.out HX.out hq)
        have D2 := Lib.hid (gb_blk BU.out C2.out (gb_lt C2.out))
        obtain ⟨y0, y1, y2, y3, y4⟩ := gb_cells5 D2.out
        have f0 := gb_free D2.out 0
        have f1 := gb_free D2.out 1
        have f2 := gb_free D2.out 2
        have f3 := gb_free D2.out 3
        have f4 := gb_free D2.out 4
        go_wp2_with fail
        have hE : (((((wu.setCell ⟨w.heap.size + 1, 0, none⟩ (.string x.name)).setCell ⟨w.heap.size + 1, 1, none⟩ (.slice x.nets.A x.nets.l.length x.nets.cap)).setCell ⟨w.heap.size + 1, 2, none⟩ (.slice x.links.A x.links.l.length x.links.cap)).setCell ⟨w.heap.size + 1, 3, none⟩ (.slice x.stats.A x.stats.l.length x.stats.cap)).setCell ⟨w.heap.size + 1, 4, none⟩ (.int .i64 x.at_)).heap[w.heap.size + 1]? = some (.cells #[.string x.name, .slice x.nets.A x.nets.l.length x.nets.cap, .slice x.links.A x.links.l.length x.links.cap, .slice x.stats.A x.stats.l.length x.stats.cap, .int .i64 x.at_] 48 (0, 0)) := by
          simpa using gb_set (gb_set (gb_set (gb_set (gb_set D2.out 0 (.string x.name)) 1 (.slice x.nets.A x.nets.l.length x.nets.cap)) 2 (.slice x.links.A x.links.l.length x.links.cap)) 3 (.slice x.stats.A x.stats.l.length x.stats.cap)) 4 (.int .i64 x.at_)
        have hBE : Below w.heap.size w (((((wu.setCell ⟨w.heap.size + 1, 0, none⟩ (.string x.name)).setCell ⟨w.heap.size + 1, 1, none⟩ (.slice x.nets.A x.nets.l.length x.nets.cap)).setCell ⟨w.heap.size + 1, 2, none⟩ (.slice x.links.A x.links.l.length x.links.cap)).setCell ⟨w.heap.size + 1, 3, none⟩ (.slice x.stats.A x.stats.l.length x.stats.cap)).setCell ⟨w.heap.size + 1, 4, none⟩ (.int .i64 x.at_)) := by
          repeat (refine Below.setCell ?_ (by simp) _)
          exact gb_trans B0.out BU.out
        generalize ((((wu.setCell ⟨w.heap.size + 1, 0, none⟩ (.string x.name)).setCell ⟨w.heap.size + 1, 1, none⟩ (.slice x.nets.A x.nets.l.length x.nets.cap)).setCell ⟨w.heap.size + 1, 2, none⟩ (.slice x.links.A x.links.l.length x.links.cap)).setCell ⟨w.heap.size + 1, 3, none⟩ (.slice x.stats.A x.stats.l.length x.stats.cap)).setCell ⟨w.heap.size + 1, 4, none⟩ (.int .i64 x.at_) = w5 at *
        clear y0 y1 y2 y3 y4 z0 z1 z2 z3 z4 D2
        obtain ⟨y0, y1, y2, y3, y4⟩ := gb_cells5 hE
        refine bodyPost_ret (v := .tuple #[.agg (rtc x).toArray, .bool true]) (by simp [results, Tryd.results24, go_sem, rtc, y0, y1, y2, y3, y4]) rfl ⟨by rw [HF.out]; rfl, hBE⟩
      | false =>
        have HF := Lib.hid (routerL_next HN.out HX.out)
        go_wp2_with fail
        go_roundw
        case rel => exact ⟨k + 1, by go_num, by omega, Lib.hid (by rw [HF.out, hq]; rfl), BU.out⟩
        case measure => simp [intOf] <;> omega
    · have hk' : k = r.rts.l.length := by omega
      subst hk'
      have HF : Hid (routerL r.rts.l nm = none) := Lib.hid (by have := HN.out; rwa [List.take_length] at this)
      have D2 := Lib.hid (gb_blk BQ.out C2.out (gb_lt C2.out))
      obtain ⟨y0, y1, y2, y3, y4⟩ := gb_cells5 D2.out
      have f0 := gb_free D2.out 0
      have f1 := gb_free D2.out 1
      have f2 := gb_free D2.out 2
      have f3 := gb_free D2.out 3
      have f4 := gb_free D2.out 4
      have hlw : w.heap.size + 1 < wr.heap.size := gb_lt D2.out
      clear hb
      go_wp2_with fail
      have hE : (((((wr.setCell ⟨w.heap.size + 1, 0, none⟩ (.string ⟨#[]⟩)).setCell ⟨w.heap.size + 1, 1, none⟩ (.slice none 0 0)).setCell ⟨w.heap.size + 1, 2, none⟩ (.slice none 0 0)).setCell ⟨w.heap.size + 1, 3, none⟩ (.slice none 0 0)).setCell ⟨w.heap.size + 1, 4, none⟩ (.int .i64 0)).heap[w.heap.size + 1]? = some (.cells #[.string ⟨#[]⟩, .slice none 0 0, .slice none 0 0, .slice none 0 0, .int .i64 0] 48 (0, 0)) := by
        simpa using gb_set (gb_set (gb_set (gb_set (gb_set D2.out 0 (.string ⟨#[]⟩)) 1 (.slice none 0 0)) 2 (.slice none 0 0)) 3 (.slice none 0 0)) 4 (.int .i64 0)
      have hBE : Below w.heap.size w (((((wr.setCell ⟨w.heap.size + 1, 0, none⟩ (.string ⟨#[]⟩)).setCell ⟨w.heap.size + 1, 1, none⟩ (.slice none 0 0)).setCell ⟨w.heap.size + 1, 2, none⟩ (.slice none 0 0)).setCell ⟨w.heap.size + 1, 3, none⟩ (.slice none 0 0)).setCell ⟨w.heap.size + 1, 4, none⟩ (.int .i64 0)) := by
        repeat (refine Below.setCell ?_ (by simp) _)
        exact gb_trans B0.out BQ.out
      generalize ((((wr.setCell ⟨w.heap.size + 1, 0, none⟩ (.string ⟨#[]⟩)).setCell ⟨w.heap.size + 1, 1, none⟩ (.slice none 0 0)).setCell ⟨w.heap.size + 1, 2, none⟩ (.slice none 0 0)).setCell ⟨w.heap.size + 1, 3, none⟩ (.slice none 0 0)).setCell ⟨w.heap.size + 1, 4, none⟩ (.int .i64 0) = w5 at *
      clear y0 y1 y2 y3 y4 D2
      obtain ⟨y0, y1, y2, y3, y4⟩ := gb_cells5 hE
      refine bodyPost_ret (v := .tuple #[.agg (rtc noRt).toArray, .bool false]) (by simp [results, Tryd.results24, go_sem, rtc, noRt, y0, y1, y2, y3, y4]) rfl ⟨by rw [HF.out]; rfl, hBE⟩
end Go.Proofs.YteciceelinbfoaaDoor
