import Derived.Test.YtbbgiockmblamaaT12
import Derived.Test.YtbbgiockmblamaaEs
set_option linter.unusedVariables false
namespace Go.Proofs.Ytbbgiockmblamaa
open Go.RowKit Mq

attribute [local go_sem high] eq_att max2_ii min2_ii
def bareE (c : Int) : EdV := ⟨0, c, ⟨none, 0, []⟩, ⟨none, 0, []⟩⟩
theorem bareE_ok (w : World) {c : Int} (h : is64 c) : EdOk w (bareE c) := ⟨by simp [is64, bareE], h, ⟨Sli.nil _ _ _, fun u h => by simp [bareE] at h, by simp [bareE], by simp [maxLen, bareE]⟩, ⟨Sli.nil _ _ _, fun u h => by simp [bareE] at h, by simp [bareE], by simp [maxLen, bareE]⟩⟩
theorem bareE_take (c : Int) (a : Att) (h : a.ok = true) : edTake (bareE c) a = ⟨true, 100, w64 (a.cost + max 1 (min c 1000)), a.tags⟩ := by
  unfold edTake takeL
  simp [bareE, doL, goL, h]
theorem bareE_none (c : Int) (a : Att) (h : a.ok = false) : edTake (bareE c) a = noAtt := by
  unfold edTake takeL
  simp [doL, h, noAtt]
theorem bareE_likes (c : Int) : anyB (likesB (bareE c)) 16 = false := by
  have : ∀ n, anyB (likesB (bareE c)) n = false := fun n => by
    induction n with
    | zero => rfl
    | succ n ih =>
      rw [anyB, ih]
      have h : edRow (bareE c) n = ⟨true, 100, w64 (0 + max 1 (min c 1000)), n &&& 15⟩ := bareE_take c ⟨true, 100, 0, n &&& 15⟩ rfl
      simp [likesB, h]
  exact this 16
set_option maxRecDepth 100000 in
set_option maxHeartbeats 4000000 in
theorem walk_EdgeBare (c : Int) (a : Att) (w : World) (hc : is64 c) (ha : a.Ok) :
    Calls Try.prog 10 #[.int .i64 c, .agg (attc a).toArray] w fun e w' => e = .returned (.bool true) ∧ Below w.heap.size w w' := by
  unfold attc
  go_enter Try.func10, Try.ntmps10
  go_wp2_with fail
  have b3 := gb_new w (.cells #[.bool a.ok, .int .i64 a.pref, .int .i64 a.cost, .int .u8 a.tags] 24)
  have hB := gb_alloc (Below.refl w.heap.size w) (.cells #[.bool a.ok, .int .i64 a.pref, .int .i64 a.cost, .int .u8 a.tags] 24)
  generalize w.alloc (.cells #[.bool a.ok, .int .i64 a.pref, .int .i64 a.cost, .int .u8 a.tags] 24) = W0 at *
  refine (awake12 W0).mono ?_
  rintro en w1 ⟨rfl, hb⟩
  have C3 := Lib.hid (gb_blk hb b3 (gb_lt b3))
  have B1 := Lib.hid (gb_trans hB hb)
  have s3 := gb_lt C3.out
  obtain ⟨x0, x1, x2, x3⟩ := gb_cells4 C3.out
  clear b3 hB hb
  go_wp2_with fail
  refine (take_any (bareE c) a ha w1 (bareE_ok w1 hc)).mono ?_
  rintro en w2 ⟨rfl, hb⟩
  have BX := Lib.hid (gb_trans B1.out hb)
  have C4 := Lib.hid (gb_blk hb C3.out (gb_lt C3.out))
  clear hb x0 x1 x2 x3 s3
  obtain ⟨x0, x1, x2, x3⟩ := gb_cells4 C4.out
  have s3 := gb_lt C4.out
  cases hok : a.ok with
  | false =>
    rw [bareE_none c a hok]
    rw [hok] at x0
    clear hok
    unfold attv
    simp only [noAtt]
    go_wp2_with fail
    go_ret
    exact ⟨rt_bool (by simp), gb_alloc BX.out _⟩
  | true =>
    rw [bareE_take c a hok]
    rw [hok] at x0
    clear hok
    unfold attv
    have HW := Lib.hid (w64_wrap (a.cost + max 1 (min c 1000)))
    have HL := Lib.hid (bareE_likes c)
    rw [← HW.out]
    go_wp2_with fail
    refine (likes_any (bareE c) _ (bareE_ok _ hc)).mono ?_
    rintro en w3 ⟨rfl, hb⟩
    rw [HL.out]
    have BY := Lib.hid (gb_trans (gb_alloc BX.out _) hb)
    clear hb
    go_wp2_with fail
    go_ret
    exact ⟨rt_bool (by simp), BY.out⟩
end Go.Proofs.Ytbbgiockmblamaa
