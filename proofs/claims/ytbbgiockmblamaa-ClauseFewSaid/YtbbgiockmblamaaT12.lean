import Derived.Test.YtbbgiockmblamaaWi
set_option linter.unusedVariables false
namespace Go.Proofs.Ytbbgiockmblamaa
open Go.RowKit Mq

set_option maxRecDepth 100000 in
set_option maxHeartbeats 4000000 in
theorem take12_any (e : EdV) (a : Att) (ha : a.Ok) (w : World) (he : EdOk w e) :
    Calls Try.prog 29 #[.agg #[.int .i64 e.from_, .int .i64 e.cost, .slice e.ex.A e.ex.l.length e.ex.cap, .slice e.im.A e.im.l.length e.im.cap], .agg #[.bool a.ok, .int .i64 a.pref, .int .i64 a.cost, .int .u8 a.tags]] w (DoPost w (edTake e a)) := by
  have HE := Lib.hid he
  have hcost := he.cost
  unfold is64 at hcost
  clear he
  go_enter Try.func29, Try.ntmps29
  go_wp2_with fail
  have b0 := gb_old _ (.cells #[.bool false, .int .i64 0, .int .i64 0, .int .u8 0] 24) (gb_old _ (.cells #[.bool a.ok, .int .i64 a.pref, .int .i64 a.cost, .int .u8 a.tags] 24) (gb_new w (.cells #[.int .i64 e.from_, .int .i64 e.cost, .slice e.ex.A e.ex.l.length e.ex.cap, .slice e.im.A e.im.l.length e.im.cap] 46)))
  have b2 := gb_new ((w.alloc (.cells #[.int .i64 e.from_, .int .i64 e.cost, .slice e.ex.A e.ex.l.length e.ex.cap, .slice e.im.A e.im.l.length e.im.cap] 46)).alloc (.cells #[.bool a.ok, .int .i64 a.pref, .int .i64 a.cost, .int .u8 a.tags] 24)) (.cells #[.bool false, .int .i64 0, .int .i64 0, .int .u8 0] 24)
  have hB := gb_alloc (gb_alloc (gb_alloc (Below.refl w.heap.size w) (.cells #[.int .i64 e.from_, .int .i64 e.cost, .slice e.ex.A e.ex.l.length e.ex.cap, .slice e.im.A e.im.l.length e.im.cap] 46)) (.cells #[.bool a.ok, .int .i64 a.pref, .int .i64 a.cost, .int .u8 a.tags] 24)) (.cells #[.bool false, .int .i64 0, .int .i64 0, .int .u8 0] 24)
  simp only [World.size_alloc] at b2
  generalize ((w.alloc (.cells #[.int .i64 e.from_, .int .i64 e.cost, .slice e.ex.A e.ex.l.length e.ex.cap, .slice e.im.A e.im.l.length e.im.cap] 46)).alloc (.cells #[.bool a.ok, .int .i64 a.pref, .int .i64 a.cost, .int .u8 a.tags] 24)).alloc (.cells #[.bool false, .int .i64 0, .int .i64 0, .int .u8 0] 24) = W at *
  have HE1 := Lib.hid (HE.out.below hB)
  refine (do_any e.ex.A e.ex.cap e.ex.l HE1.out.ex.ok noPfx noPfx_ok a ha W HE1.out.ex.at_ HE1.out.ex.len_le).mono ?_
  rintro en w1 ⟨rfl, hb⟩
  have hbo := doL_ok noPfx HE1.out.ex.ok ha
  have HT : Hid (edTake e a = if (doL e.ex.l noPfx a).ok then doL e.im.l noPfx ⟨true, 100, w64 ((doL e.ex.l noPfx a).cost + max 1 (min e.cost 1000)), (doL e.ex.l noPfx a).tags⟩ else noAtt) := Lib.hid rfl
  generalize doL e.ex.l noPfx a = r at *
  unfold attv
  have V0 := Lib.hid (gb_old _ (.cells #[.bool r.ok, .int .i64 r.pref, .int .i64 r.cost, .int .u8 r.tags] 24) (gb_blk hb b0 (gb_lt b0)))
  have V2 := Lib.hid (gb_old _ (.cells #[.bool r.ok, .int .i64 r.pref, .int .i64 r.cost, .int .u8 r.tags] 24) (gb_blk hb b2 (gb_lt b2)))
  have V1 := Lib.hid (gb_new w1 (.cells #[.bool r.ok, .int .i64 r.pref, .int .i64 r.cost, .int .u8 r.tags] 24))
  have BV := Lib.hid (gb_alloc (gb_trans hB hb) (.cells #[.bool r.ok, .int .i64 r.pref, .int .i64 r.cost, .int .u8 r.tags] 24))
  clear b0 b2 hB hb
  go_upto_region 2 with fail
  generalize w1.alloc (.cells #[.bool r.ok, .int .i64 r.pref, .int .i64 r.cost, .int .u8 r.tags] 24) = w2 at *
  obtain ⟨x0, x1, x2, x3⟩ := gb_cells4 V0.out
  obtain ⟨y0, y1, y2, y3⟩ := gb_cells4 V1.out
  cases hok : r.ok with
  | false =>
    have HF : Hid (edTake e a = noAtt) := Lib.hid (by rw [HT.out, if_neg (by simp [hok])])
    obtain ⟨z0, z1, z2, z3⟩ := gb_cells4 V2.out
    have g0 := gb_free V2.out 0
    have g1 := gb_free V2.out 1
    have g2 := gb_free V2.out 2
    have g3 := gb_free V2.out 3
    have s2 := gb_lt V2.out
    go_wp2_with fail
    refine bodyPost_ret (v := attv noAtt) (by simp [results, Try.results29, go_sem, attv, noAtt, *]) rfl ⟨by rw [HF.out], ?_⟩
    repeat (refine Below.setCell ?_ (by simp <;> omega) _)
    exact BV.out
  | true =>
    have HF := Lib.hid (HT.out.trans (if_pos hok))
    have HRT := Lib.hid hbo.tags
    have HE3 := Lib.hid (HE.out.below BV.out)
    clear hbo
    by_cases hlo : e.cost < 1
    · have HK : Hid (edTake e a = doL e.im.l noPfx ⟨true, 100, w64 (r.cost + 1), r.tags⟩) := Lib.hid (by rw [HF.out, show max 1 (min e.cost 1000) = 1 by omega])
      have HC := Lib.hid (w64_wrap (r.cost + 1))
      go_wp2_with fail
      rw [HC.out]
      refine (do_any e.im.A e.im.cap e.im.l HE3.out.im.ok noPfx noPfx_ok ⟨true, 100, w64 (r.cost + 1), r.tags⟩ ⟨⟨by simp, by simp⟩, w64_is _, HRT.out⟩ w2 HE3.out.im.at_ HE3.out.im.len_le).mono ?_
      rintro en w4 ⟨rfl, hb⟩
      rw [← HK.out]
      have t2 := gb_blk hb V2.out (gb_lt V2.out)
      have BW := Lib.hid (gb_trans BV.out hb)
      have HAV : Hid (attv (edTake e a) = .agg #[.bool (edTake e a).ok, .int .i64 (edTake e a).pref, .int .i64 (edTake e a).cost, .int .u8 (edTake e a).tags]) := Lib.hid rfl
      generalize edTake e a = q at *
      unfold attv
      obtain ⟨z0, z1, z2, z3⟩ := gb_cells4 t2
      have g0 := gb_free t2 0
      have g1 := gb_free t2 1
      have g2 := gb_free t2 2
      have g3 := gb_free t2 3
      have s2 := gb_lt t2
      clear t2 hb x0 x1 x2 x3 y0 y1 y2 y3
      go_wp2_with fail
      refine bodyPost_ret (v := .agg #[.bool q.ok, .int .i64 q.pref, .int .i64 q.cost, .int .u8 q.tags]) (by simp [results, Try.results29, go_sem, *]) rfl ⟨by rw [HAV.out], ?_⟩
      repeat (refine Below.setCell ?_ (by simp <;> omega) _)
      exact BW.out
    · have hlo' : decide (e.cost < 1) = false := by simpa using hlo
      by_cases hhi : 1000 < e.cost
      · have HK : Hid (edTake e a = doL e.im.l noPfx ⟨true, 100, w64 (r.cost + 1000), r.tags⟩) := Lib.hid (by rw [HF.out, show max 1 (min e.cost 1000) = 1000 by omega])
        have HC := Lib.hid (w64_wrap (r.cost + 1000))
        go_wp2_with fail
        rw [HC.out]
        refine (do_any e.im.A e.im.cap e.im.l HE3.out.im.ok noPfx noPfx_ok ⟨true, 100, w64 (r.cost + 1000), r.tags⟩ ⟨⟨by simp, by simp⟩, w64_is _, HRT.out⟩ w2 HE3.out.im.at_ HE3.out.im.len_le).mono ?_
        rintro en w4 ⟨rfl, hb⟩
        rw [← HK.out]
        have t2 := gb_blk hb V2.out (gb_lt V2.out)
        have BW := Lib.hid (gb_trans BV.out hb)
        have HAV : Hid (attv (edTake e a) = .agg #[.bool (edTake e a).ok, .int .i64 (edTake e a).pref, .int .i64 (edTake e a).cost, .int .u8 (edTake e a).tags]) := Lib.hid rfl
        generalize edTake e a = q at *
        unfold attv
        obtain ⟨z0, z1, z2, z3⟩ := gb_cells4 t2
        have g0 := gb_free t2 0
        have g1 := gb_free t2 1
        have g2 := gb_free t2 2
        have g3 := gb_free t2 3
        have s2 := gb_lt t2
        clear t2 hb x0 x1 x2 x3 y0 y1 y2 y3
        go_wp2_with fail
        refine bodyPost_ret (v := .agg #[.bool q.ok, .int .i64 q.pref, .int .i64 q.cost, .int .u8 q.tags]) (by simp [results, Try.results29, go_sem, *]) rfl ⟨by rw [HAV.out], ?_⟩
        repeat (refine Below.setCell ?_ (by simp <;> omega) _)
        exact BW.out
      · have hhi' : decide (1000 < e.cost) = false := by simpa using hhi
        have HK : Hid (edTake e a = doL e.im.l noPfx ⟨true, 100, w64 (r.cost + e.cost), r.tags⟩) := Lib.hid (by rw [HF.out, show max 1 (min e.cost 1000) = e.cost by omega])
        have HC := Lib.hid (w64_wrap (r.cost + e.cost))
        go_wp2_with fail
        rw [HC.out]
        refine (do_any e.im.A e.im.cap e.im.l HE3.out.im.ok noPfx noPfx_ok ⟨true, 100, w64 (r.cost + e.cost), r.tags⟩ ⟨⟨by simp, by simp⟩, w64_is _, HRT.out⟩ w2 HE3.out.im.at_ HE3.out.im.len_le).mono ?_
        rintro en w4 ⟨rfl, hb⟩
        rw [← HK.out]
        have t2 := gb_blk hb V2.out (gb_lt V2.out)
        have BW := Lib.hid (gb_trans BV.out hb)
        have HAV : Hid (attv (edTake e a) = .agg #[.bool (edTake e a).ok, .int .i64 (edTake e a).pref, .int .i64 (edTake e a).cost, .int .u8 (edTake e a).tags]) := Lib.hid rfl
        generalize edTake e a = q at *
        unfold attv
        obtain ⟨z0, z1, z2, z3⟩ := gb_cells4 t2
        have g0 := gb_free t2 0
        have g1 := gb_free t2 1
        have g2 := gb_free t2 2
        have g3 := gb_free t2 3
        have s2 := gb_lt t2
        clear t2 hb x0 x1 x2 x3 y0 y1 y2 y3
        go_wp2_with fail
        refine bodyPost_ret (v := .agg #[.bool q.ok, .int .i64 q.pref, .int .i64 q.cost, .int .u8 q.tags]) (by simp [results, Try.results29, go_sem, *]) rfl ⟨by rw [HAV.out], ?_⟩
        repeat (refine Below.setCell ?_ (by simp <;> omega) _)
        exact BW.out
attribute [local go_sem high] eq_att
set_option maxRecDepth 100000 in
theorem awake12 (w : World) : Calls Try.prog 23 #[] w fun e w' => e = .returned (.bool true) ∧ Below w.heap.size w w' := by
  have HD : Hid (edTake ⟨0, 3, ⟨none, 0, []⟩, ⟨none, 0, []⟩⟩ ⟨true, 200, 4, 2⟩ = ⟨true, 100, 7, 2⟩) := Lib.hid (by decide)
  have HO : Hid (EdOk w ⟨0, 3, ⟨none, 0, []⟩, ⟨none, 0, []⟩⟩) := Lib.hid ⟨by simp [is64], by simp [is64], ⟨Sli.nil _ _ _, fun u h => by simp at h, by simp, by simp [maxLen]⟩, ⟨Sli.nil _ _ _, fun u h => by simp at h, by simp, by simp [maxLen]⟩⟩
  go_enter Try.func23, Try.ntmps23
  go_wp2_with fail
  refine (take_any ⟨0, 3, ⟨none, 0, []⟩, ⟨none, 0, []⟩⟩ ⟨true, 200, 4, 2⟩ (att_ok (by omega) (by omega) (by omega) (by omega) (by omega)) w HO.out).mono ?_
  rintro e w1 ⟨rfl, hb⟩
  rw [HD.out]
  unfold attv
  have B := Lib.hid hb
  clear hb
  go_wp2_with fail
  go_ret
  exact ⟨rt_bool (by simp), B.out⟩
end Go.Proofs.Ytbbgiockmblamaa
