import Derived.Test.YtimlfmklbfgliaaDoorEq
import Derived.Test.YtimlfmklbfgliaaDoorRdt
import Derived.Test.YtimlfmklbfgliaaDoorShp
set_option linter.unusedVariables false
namespace Go.Proofs.YtimlfmklbfgliaaDoor
open Go.RowKit Mq
attribute [local go_sem high] max2_ii min2_ii

theorem SlOk.below {α : Type} {ec : α → List Value} {size : Nat} {Ok : World → α → Prop} {w w' : World} {s : SlV α} (h : SlOk ec size Ok w s) (hb : Below w.heap.size w w') (hok : ∀ u, Ok w u → Ok w' u) : SlOk ec size Ok w' s :=
  ⟨(h.at_.below hb).more hb.size, fun u hu => hok u (h.ok u hu), h.fits, h.cap⟩
theorem EdOk.below {w w' : World} {e : EdV} (h : EdOk w e) (hb : Below w.heap.size w w') : EdOk w' e := ⟨h.from_, h.cost, h.ex.below hb (fun _ h => h), h.im.below hb (fun _ h => h)⟩
theorem WiOk.below {w w' : World} {e : WiV} (h : WiOk w e) (hb : Below w.heap.size w w') : WiOk w' e := ⟨h.from_, h.cost, h.ex.below hb (fun _ h => h), h.im.below hb (fun _ h => h)⟩
def edTake (e : EdV) (a : Att) : Att := takeL e.cost e.ex.l e.im.l a
theorem edTake_ok {w : World} {e : EdV} (he : EdOk w e) {a : Att} (ha : a.Ok) : (edTake e a).Ok := takeL_ok he.ex.ok he.im.ok ha

set_option maxRecDepth 100000 in
set_option maxHeartbeats 2000000 in
theorem take_any (e : EdV) (a : Att) (ha : a.Ok) (w : World) (he : EdOk w e) :
    Calls Tryd.prog 15 #[.agg #[.int .i64 e.from_, .int .i64 e.cost, .slice e.ex.A e.ex.l.length e.ex.cap, .slice e.im.A e.im.l.length e.im.cap], .agg #[.bool a.ok, .int .i64 a.pref, .int .i64 a.cost, .int .u8 a.tags]] w (DoPost w (edTake e a)) := by
  have HE := Lib.hid he
  clear he
  go_enter Tryd.func15, Tryd.ntmps15
  go_wp2_with fail
  have b0 := gb_old _ (.cells #[.bool false, .int .i64 0, .int .i64 0, .int .u8 0] 49) (gb_old _ (.cells #[.bool a.ok, .int .i64 a.pref, .int .i64 a.cost, .int .u8 a.tags] 49) (gb_new w (.cells #[.int .i64 e.from_, .int .i64 e.cost, .slice e.ex.A e.ex.l.length e.ex.cap, .slice e.im.A e.im.l.length e.im.cap] 36)))
  have b1 := gb_old _ (.cells #[.bool false, .int .i64 0, .int .i64 0, .int .u8 0] 49) (gb_new (w.alloc (.cells #[.int .i64 e.from_, .int .i64 e.cost, .slice e.ex.A e.ex.l.length e.ex.cap, .slice e.im.A e.im.l.length e.im.cap] 36)) (.cells #[.bool a.ok, .int .i64 a.pref, .int .i64 a.cost, .int .u8 a.tags] 49))
  have b2 := gb_new ((w.alloc (.cells #[.int .i64 e.from_, .int .i64 e.cost, .slice e.ex.A e.ex.l.length e.ex.cap, .slice e.im.A e.im.l.length e.im.cap] 36)).alloc (.cells #[.bool a.ok, .int .i64 a.pref, .int .i64 a.cost, .int .u8 a.tags] 49)) (.cells #[.bool false, .int .i64 0, .int .i64 0, .int .u8 0] 49)
  have hB := gb_alloc (gb_alloc (gb_alloc (Below.refl w.heap.size w) (.cells #[.int .i64 e.from_, .int .i64 e.cost, .slice e.ex.A e.ex.l.length e.ex.cap, .slice e.im.A e.im.l.length e.im.cap] 36)) (.cells #[.bool a.ok, .int .i64 a.pref, .int .i64 a.cost, .int .u8 a.tags] 49)) (.cells #[.bool false, .int .i64 0, .int .i64 0, .int .u8 0] 49)
  simp only [World.size_alloc] at b1 b2
  generalize ((w.alloc (.cells #[.int .i64 e.from_, .int .i64 e.cost, .slice e.ex.A e.ex.l.length e.ex.cap, .slice e.im.A e.im.l.length e.im.cap] 36)).alloc (.cells #[.bool a.ok, .int .i64 a.pref, .int .i64 a.cost, .int .u8 a.tags] 49)).alloc (.cells #[.bool false, .int .i64 0, .int .i64 0, .int .u8 0] 49) = W at *
  have HE1 := Lib.hid (HE.out.below hB)
  refine (do_any e.ex.A e.ex.cap e.ex.l HE1.out.ex.ok noPfx noPfx_ok a ha W HE1.out.ex.at_ HE1.out.ex.len_le).mono ?_
  rintro en w1 ⟨rfl, hb⟩
  have hbo := doL_ok noPfx HE1.out.ex.ok ha
  have HT : Hid (edTake e a = if (doL e.ex.l noPfx a).ok then doL e.im.l noPfx ⟨true, 100, w64 ((doL e.ex.l noPfx a).cost + max 1 (min e.cost 1000)), (doL e.ex.l noPfx a).tags⟩ else noAtt) := Lib.hid rfl
  generalize doL e.ex.l noPfx a = r at *
  unfold attv
  have t0 := gb_blk hb b0 (gb_lt b0)
  have t1 := gb_blk hb b1 (gb_lt b1)
  have t2 := gb_blk hb b2 (gb_lt b2)
  have HE2 := Lib.hid (HE1.out.below hb)
  have BB := Lib.hid (gb_trans hB hb)
  have T0 := Lib.hid t0
  have T1 := Lib.hid t1
  have T2 := Lib.hid t2
  obtain ⟨x0, x1, x2, x3⟩ := gb_cells4 t0
  obtain ⟨y0, y1, y2, y3⟩ := gb_cells4 t1
  obtain ⟨z0, z1, z2, z3⟩ := gb_cells4 t2
  have f0 := gb_free t1 0
  have f1 := gb_free t1 1
  have f2 := gb_free t1 2
  have f3 := gb_free t1 3
  have g0 := gb_free t2 0
  have g1 := gb_free t2 1
  have g2 := gb_free t2 2
  have g3 := gb_free t2 3
  have s1 := gb_lt t1
  have s2 := gb_lt t2
  clear t0 t1 t2 b0 b1 b2 hB hb
  cases hok : r.ok with
  | false =>
    have HF : Hid (edTake e a = noAtt) := Lib.hid (by rw [HT.out, if_neg (by simp [hok])])
    go_wp2_with fail
    refine bodyPost_ret (v := attv noAtt) (by simp [results, Tryd.results15, go_sem, attv, noAtt, *]) rfl ⟨by rw [HF.out], ?_⟩
    repeat (refine Below.setCell ?_ (by simp <;> omega) _)
    exact BB.out
  | true =>
    have HF := Lib.hid (HT.out.trans (if_pos hok))
    have HC := Lib.hid (w64_wrap (r.cost + max 1 (min e.cost 1000)))
    have HRO := Lib.hid hbo
    clear hbo
    go_upto_region 4 with fail
    have U1 : Hid (((((w1.setCell ⟨w.heap.size + 1, 0, none⟩ (.bool true)).setCell ⟨w.heap.size + 1, 1, none⟩ (.int .i64 r.pref)).setCell ⟨w.heap.size + 1, 2, none⟩ (.int .i64 r.cost)).setCell ⟨w.heap.size + 1, 3, none⟩ (.int .u8 r.tags)).heap[w.heap.size + 1]? = some (.cells #[.bool true, .int .i64 r.pref, .int .i64 r.cost, .int .u8 r.tags] 49 (0, 0))) := Lib.hid (gb_set (gb_set (gb_set (gb_set T1.out 0 (.bool true)) 1 (.int .i64 r.pref)) 2 (.int .i64 r.cost)) 3 (.int .u8 r.tags))
    have U2 : Hid (((((w1.setCell ⟨w.heap.size + 1, 0, none⟩ (.bool true)).setCell ⟨w.heap.size + 1, 1, none⟩ (.int .i64 r.pref)).setCell ⟨w.heap.size + 1, 2, none⟩ (.int .i64 r.cost)).setCell ⟨w.heap.size + 1, 3, none⟩ (.int .u8 r.tags)).heap[w.heap.size + 1 + 1]? = some (.cells #[.bool false, .int .i64 0, .int .i64 0, .int .u8 0] 49 (0, 0))) := Lib.hid (gb_far (gb_far (gb_far (gb_far T2.out (by simp) _) (by simp) _) (by simp) _) (by simp) _)
    have U0 : Hid (((((w1.setCell ⟨w.heap.size + 1, 0, none⟩ (.bool true)).setCell ⟨w.heap.size + 1, 1, none⟩ (.int .i64 r.pref)).setCell ⟨w.heap.size + 1, 2, none⟩ (.int .i64 r.cost)).setCell ⟨w.heap.size + 1, 3, none⟩ (.int .u8 r.tags)).heap[w.heap.size]? = some (.cells #[.int .i64 e.from_, .int .i64 e.cost, .slice e.ex.A e.ex.l.length e.ex.cap, .slice e.im.A e.im.l.length e.im.cap] 36 (0, 0))) := Lib.hid (gb_far (gb_far (gb_far (gb_far T0.out (by simp) _) (by simp) _) (by simp) _) (by simp) _)
    have BU := Lib.hid ((((BB.out.setCell (p := ⟨w.heap.size + 1, 0, none⟩) (by simp <;> omega) (.bool true)).setCell (p := ⟨w.heap.size + 1, 1, none⟩) (by simp <;> omega) (.int .i64 r.pref)).setCell (p := ⟨w.heap.size + 1, 2, none⟩) (by simp <;> omega) (.int .i64 r.cost)).setCell (p := ⟨w.heap.size + 1, 3, none⟩) (by simp <;> omega) (.int .u8 r.tags))
    generalize ((((w1.setCell ⟨w.heap.size + 1, 0, none⟩ (.bool true)).setCell ⟨w.heap.size + 1, 1, none⟩ (.int .i64 r.pref)).setCell ⟨w.heap.size + 1, 2, none⟩ (.int .i64 r.cost)).setCell ⟨w.heap.size + 1, 3, none⟩ (.int .u8 r.tags)) = w2 at *
    clear x0 x1 x2 x3 y0 y1 y2 y3 z0 z1 z2 z3 f0 f1 f2 f3 g0 g1 g2 g3 s1 s2
    obtain ⟨x0, x1, x2, x3⟩ := gb_cells4 U0.out
    obtain ⟨y0, y1, y2, y3⟩ := gb_cells4 U1.out
    have f1 := gb_free U1.out 1
    have f2 := gb_free U1.out 2
    have s1 := gb_lt U1.out
    go_upto_region 6 with fail
    have V1 : Hid (((w2.setCell ⟨w.heap.size + 1, 2, none⟩ (.int .i64 (wrap64 (r.cost + max 1 (min e.cost 1000))))).setCell ⟨w.heap.size + 1, 1, none⟩ (.int .i64 100)).heap[w.heap.size + 1]? = some (.cells #[.bool true, .int .i64 100, .int .i64 (wrap64 (r.cost + max 1 (min e.cost 1000))), .int .u8 r.tags] 49 (0, 0))) := Lib.hid (gb_set (gb_set U1.out 2 (.int .i64 (wrap64 (r.cost + max 1 (min e.cost 1000))))) 1 (.int .i64 100))
    have V2 : Hid (((w2.setCell ⟨w.heap.size + 1, 2, none⟩ (.int .i64 (wrap64 (r.cost + max 1 (min e.cost 1000))))).setCell ⟨w.heap.size + 1, 1, none⟩ (.int .i64 100)).heap[w.heap.size + 1 + 1]? = some (.cells #[.bool false, .int .i64 0, .int .i64 0, .int .u8 0] 49 (0, 0))) := Lib.hid (gb_far (gb_far U2.out (by simp) _) (by simp) _)
    have V0 : Hid (((w2.setCell ⟨w.heap.size + 1, 2, none⟩ (.int .i64 (wrap64 (r.cost + max 1 (min e.cost 1000))))).setCell ⟨w.heap.size + 1, 1, none⟩ (.int .i64 100)).heap[w.heap.size]? = some (.cells #[.int .i64 e.from_, .int .i64 e.cost, .slice e.ex.A e.ex.l.length e.ex.cap, .slice e.im.A e.im.l.length e.im.cap] 36 (0, 0))) := Lib.hid (gb_far (gb_far U0.out (by simp) _) (by simp) _)
    have BV := Lib.hid ((BU.out.setCell (p := ⟨w.heap.size + 1, 2, none⟩) (by simp <;> omega) (.int .i64 (wrap64 (r.cost + max 1 (min e.cost 1000))))).setCell (p := ⟨w.heap.size + 1, 1, none⟩) (by simp <;> omega) (.int .i64 100))
    generalize ((w2.setCell ⟨w.heap.size + 1, 2, none⟩ (.int .i64 (wrap64 (r.cost + max 1 (min e.cost 1000))))).setCell ⟨w.heap.size + 1, 1, none⟩ (.int .i64 100)) = w3 at *
    rw [HC.out] at V1 ⊢
    clear x0 x1 x2 x3 y0 y1 y2 y3 f1 f2 s1
    obtain ⟨x0, x1, x2, x3⟩ := gb_cells4 V0.out
    obtain ⟨y0, y1, y2, y3⟩ := gb_cells4 V1.out
    have HE3 := Lib.hid (HE.out.below BV.out)
    have HRT := Lib.hid HRO.out.tags
    go_wp2_with fail
    refine (do_any e.im.A e.im.cap e.im.l HE3.out.im.ok noPfx noPfx_ok ⟨true, 100, w64 (r.cost + max 1 (min e.cost 1000)), r.tags⟩ ⟨⟨by simp, by simp⟩, w64_is _, HRT.out⟩ w3 HE3.out.im.at_ HE3.out.im.len_le).mono ?_
    rintro en w4 ⟨rfl, hb⟩
    rw [← HF.out]
    have t2 := gb_blk hb V2.out (gb_lt V2.out)
    have BW := Lib.hid (gb_trans BV.out hb)
    have HAV : Hid (attv (edTake e a) = .agg #[.bool (edTake e a).ok, .int .i64 (edTake e a).pref, .int .i64 (edTake e a).cost, .int .u8 (edTake e a).tags]) := Lib.hid rfl
    generalize edTake e a = q at *
    unfold attv
    obtain ⟨z0, z1, z2, z3⟩ := gb_cells4 t2
    have g0 := gb_free t2 0
    have g1 := gb_free t2 1
    have g2 := gb_free t2 2
    have g3 := gb_free t2 3
    have s2 := gb_lt t2
    clear t2 hb x0 x1 x2 x3 y0 y1 y2 y3
    go_wp2_with fail
    refine bodyPost_ret (v := .agg #[.bool q.ok, .int .i64 q.pref, .int .i64 q.cost, .int .u8 q.tags]) (by simp [results, Tryd.results15, go_sem, *]) rfl ⟨by rw [HAV.out], ?_⟩
    repeat (refine Below.setCell ?_ (by simp <;> omega) _)
    exact BW.out
end Go.Proofs.YtimlfmklbfgliaaDoor
