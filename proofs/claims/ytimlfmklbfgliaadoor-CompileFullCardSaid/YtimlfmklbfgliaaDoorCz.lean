import Derived.Test.YtimlfmklbfgliaaDoorCy
set_option linter.unusedVariables false
namespace Go.Proofs.YtimlfmklbfgliaaDoor
open Go.RowKit Mq

theorem gb_setRow {B g : Nat} {w0 w : World} (hb : Below B w0 w) (hBg : B ≤ g) (cs : Array Value) : Below B w0 (w.setRow g cs) :=
  hb.trans ⟨rfl, rfl, rfl, by simp [World.setRow], fun k hk => setRow_other w g k cs (by omega)⟩
theorem below_of_keep {w w' : World} (h : Keep (fun k => k < w.heap.size) w w') : Below w.heap.size w w' := ⟨h.os, h.tape, h.output, h.size, fun k hk => h.block k hk hk⟩
/-- An edge of so much, without maps. -/
def bareE (c : Int) : EdV := ⟨0, c, ⟨none, 0, []⟩, ⟨none, 0, []⟩⟩
theorem bareE_ok (w : World) {c : Int} (h : is64 c) : EdOk w (bareE c) := ⟨⟨by simp [bareE], by simp [bareE]⟩, h, ⟨Sli.nil _ _ _, fun u hu => by simp [bareE] at hu, by simp [bareE], by simp [bareE, maxLen]⟩, ⟨Sli.nil _ _ _, fun u hu => by simp [bareE] at hu, by simp [bareE], by simp [bareE, maxLen]⟩⟩
theorem bare_at (most : Nat) (hm : most = 99 ∨ most = 4096) {c : Int} {n : Nat} (hc : (n : Int) = max 1 (min c 1000)) : polP most (edT (bareE c)) 24 [no, yes] = (ns6, bareL n 19, 0) := by
  refine bare_pol (edT_bare rfl rfl hc) ?_ 19 (by omega)
  rcases hm with rfl | rfl
  · exact bare99
  · exact bare4096
theorem bareL_at (n j : Nat) (h5 : 5 ≤ j) (hj : j < 24) : (bareL n 19)[j]? = some (if bitN ⟨true, 100, (n : Int), 0⟩ j then 1 else 0) := by
  unfold bareL
  rw [List.getElem?_append_right (by simp; omega)]
  simp only [List.length_cons, List.length_nil, List.getElem?_map, Nat.zero_add, Nat.reduceAdd]
  rw [List.getElem?_range (by omega)]
  simp [show 5 + (j - 5) = j by omega]
set_option maxRecDepth 100000 in
set_option maxHeartbeats 2000000 in
theorem awake14 (w : World) : Calls Tryd.prog 4 #[] w fun e w' => e = .returned (.bool true) ∧ Below w.heap.size w w' := by
  have HP := Lib.hid (bare_at 99 (.inl rfl) (c := 3) (n := 3) (by decide))
  go_enter Tryd.func4, Tryd.ntmps4
  go_wp2_with fail
  refine (of_any w 99 99 (by decide)).mono ?_
  rintro e w1 ⟨a, rfl, hA, hk, hle⟩
  have A1 := Lib.hid hA; have K1 := Lib.hid hk; clear hA hk hle
  go_wp2_with fail
  refine (compOf_any A1.out (bareE 3) (bareE_ok w1 ⟨by decide, by decide⟩)).mono ?_
  rw [HP.out]
  rintro e w2 ⟨rfl, hA, hk⟩
  have K2 := Lib.hid (K1.out.trans hk); clear hA hk
  have he : errv 0 = .nilIface := rfl
  simp only
  rw [he]
  clear he
  have HL := Lib.hid (show (bareL 3 19)[0]? = some 1 ∧ (bareL 3 19)[13]? = some 1 ∧ (bareL 3 19)[14]? = some 1 ∧ (bareL 3 19)[15]? = some 0 ∧ (bareL 3 19)[7]? = some 1 ∧ (bareL 3 19)[10]? = some 1 ∧ (bareL 3 19)[11]? = some 1 by decide)
  generalize bareL 3 19 = L at *
  go_upto_region 5 with (refine wpList_store_rowTo rfl 29 _ _ rfl rfl w2.heap.size (outC L) rfl rfl _ _ (gb_new _ _) (by rw [outC_size]; kernel_rfl) (by rw [outC_size]; rfl) (outC_one L) ?_)
  have hb := setRow_heap _ w2.heap.size _ (outC L) _ _ (gb_new w2 (.cells (outC []) 29))
  have BB : Hid (Below w2.heap.size w2 ((w2.alloc (.cells (outC []) 29)).setRow w2.heap.size (outC L))) := Lib.hid (gb_setRow (gb_alloc (Below.refl _ _) _) (Nat.le_refl _) _)
  change Code.wp _ _ _ _ ((w2.alloc (.cells (outC []) 29)).setRow w2.heap.size (outC L))
  generalize (w2.alloc (.cells (outC []) 29)).setRow w2.heap.size (outC L) = w3 at *
  obtain ⟨l0, l13, l14, l15, l7, l10, l11⟩ := HL.out
  have d0 := (gb_cell hb 0).trans (outC_get L l0 (by omega))
  have d7 := (gb_cell hb 7).trans (outC_get L l7 (by omega))
  have d10 := (gb_cell hb 10).trans (outC_get L l10 (by omega))
  have d11 := (gb_cell hb 11).trans (outC_get L l11 (by omega))
  have d13 := (gb_cell hb 13).trans (outC_get L l13 (by omega))
  have d14 := (gb_cell hb 14).trans (outC_get L l14 (by omega))
  have d15 := (gb_cell hb 15).trans (outC_get L l15 (by omega))
  clear l0 l13 l14 l15 l7 l10 l11 hb
  go_wp2_with fail
  go_ret
  exact ⟨ret_bool (by simp), below_of_keep (K2.out.trans (Keep.below BB.out))⟩
end Go.Proofs.YtimlfmklbfgliaaDoor
