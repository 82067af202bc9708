import Derived.Test.YtimlfmklbfgliaaDoorEd
set_option linter.unusedVariables false
namespace Go.Proofs.YtimlfmklbfgliaaDoor
open Go.RowKit Mq

def edRow (e : EdV) (t : Nat) : Att := edTake e ⟨true, 100, 0, t &&& 15⟩
theorem edRow_ok {w : World} {e : EdV} (he : EdOk w e) (t : Nat) : (edRow e t).Ok := edTake_ok he (att_ok (by omega) (by omega) (by omega) (by omega) (by have : t &&& 15 ≤ 15 := Nat.and_le_right; omega))
theorem and15 (t : Nat) (ht : t < 256) : bits .and .u8 (t : Int) 15 = ((t &&& 15 : Nat) : Int) := u8_and_nat t 15 ht (by omega)
set_option maxRecDepth 100000 in
set_option maxHeartbeats 2000000 in
theorem row_any (e : EdV) (t : Nat) (ht : t < 256) (w : World) (he : EdOk w e) :
    Calls Tryd.prog 10 #[.agg #[.int .i64 e.from_, .int .i64 e.cost, .slice e.ex.A e.ex.l.length e.ex.cap, .slice e.im.A e.im.l.length e.im.cap], .int .u8 t] w
      fun en w' => en = .returned (.tuple #[.agg #[.bool (edRow e t).ok, .int .i64 (edRow e t).pref, .int .i64 (edRow e t).cost, .int .u8 (edRow e t).tags], .bool (edRow e t).ok]) ∧ Below w.heap.size w w' := by
  have HE := Lib.hid he
  have H15 := and15 t ht
  clear he
  have hao : ((⟨true, 100, 0, t &&& 15⟩ : Att).Ok) := att_ok (by omega) (by omega) (by omega) (by omega) (by have : t &&& 15 ≤ 15 := Nat.and_le_right; omega)
  have HAO := Lib.hid hao
  clear hao
  go_enter Tryd.func10, Tryd.ntmps10
  go_wp2_with fail
  have b1 := gb_new (w.alloc (.cells #[.int .i64 e.from_, .int .i64 e.cost, .slice e.ex.A e.ex.l.length e.ex.cap, .slice e.im.A e.im.l.length e.im.cap] 36)) (.cells #[.bool false, .int .i64 0, .int .i64 0, .int .u8 0] 49)
  have hB := gb_alloc (gb_alloc (Below.refl w.heap.size w) (.cells #[.int .i64 e.from_, .int .i64 e.cost, .slice e.ex.A e.ex.l.length e.ex.cap, .slice e.im.A e.im.l.length e.im.cap] 36)) (.cells #[.bool false, .int .i64 0, .int .i64 0, .int .u8 0] 49)
  simp only [World.size_alloc] at b1
  generalize (w.alloc (.cells #[.int .i64 e.from_, .int .i64 e.cost, .slice e.ex.A e.ex.l.length e.ex.cap, .slice e.im.A e.im.l.length e.im.cap] 36)).alloc (.cells #[.bool false, .int .i64 0, .int .i64 0, .int .u8 0] 49) = W at *
  refine (take_any e ⟨true, 100, 0, t &&& 15⟩ HAO.out W (HE.out.below hB)).mono ?_
  rintro en w1 ⟨rfl, hb⟩
  have HR : Hid (edTake e ⟨true, 100, 0, t &&& 15⟩ = edRow e t) := Lib.hid rfl
  rw [HR.out]
  generalize edRow e t = q at *
  unfold attv
  have t1 := gb_old _ (.cells #[.bool q.ok, .int .i64 q.pref, .int .i64 q.cost, .int .u8 q.tags] 49) (gb_blk hb b1 (gb_lt b1))
  have t2 := gb_new w1 (.cells #[.bool q.ok, .int .i64 q.pref, .int .i64 q.cost, .int .u8 q.tags] 49)
  have BB := Lib.hid (gb_alloc (gb_trans hB hb) (.cells #[.bool q.ok, .int .i64 q.pref, .int .i64 q.cost, .int .u8 q.tags] 49))
  have s3 := gb_lt (gb_blk hb b1 (gb_lt b1))
  have n1 : ¬ w.heap.size + 1 = w1.heap.size := by omega
  have n2 : ¬ w1.heap.size = w.heap.size + 1 := by omega
  clear b1 hB hb H15
  go_upto_region 2 with fail
  generalize w1.alloc (.cells #[.bool q.ok, .int .i64 q.pref, .int .i64 q.cost, .int .u8 q.tags] 49) = W2 at *
  obtain ⟨y0, y1, y2, y3⟩ := gb_cells4 t1
  obtain ⟨x0, x1, x2, x3⟩ := gb_cells4 t2
  have f0 := gb_free t1 0
  have f1 := gb_free t1 1
  have f2 := gb_free t1 2
  have f3 := gb_free t1 3
  have s1 := gb_lt t1
  have s2 := gb_lt t2
  clear t1 t2
  go_region
  all_goals go_wp2_with fail
  have HQ : Hid (edRow e t = q) := Lib.hid (by rw [← HR.out]; rfl)
  refine bodyPost_ret (v := .tuple #[.agg #[.bool q.ok, .int .i64 q.pref, .int .i64 q.cost, .int .u8 q.tags], .bool q.ok]) (by simp [results, Tryd.results10, go_sem, *]) rfl ⟨by rw [HQ.out], ?_⟩
  refine Below.drew ?_
  repeat (refine Below.setCell ?_ (by simp <;> omega) _)
  exact BB.out

/-! ### Likes, Same -/
def likesB (e : EdV) (k : Nat) : Bool := (edRow e k).ok && decide (¬ (edRow e k).pref = 100)
def anyB (f : Nat → Bool) : Nat → Bool
  | 0 => false
  | k + 1 => anyB f k || f k
theorem anyB_true {f : Nat → Bool} {k n : Nat} (h : k < n) (hk : f k = true) : anyB f n = true := by
  induction n with
  | zero => omega
  | succ n ih =>
    rw [anyB]
    rcases Nat.lt_or_ge k n with h1 | h1
    · rw [ih h1]; rfl
    · have : k = n := by omega
      subst this; rw [hk]; simp
theorem neq100 (x : Int) : (x != 100) = decide (¬ x = 100) := by rw [Bool.eq_iff_iff]; simp
end Go.Proofs.YtimlfmklbfgliaaDoor
