import Derived.Test.YtimlfmklbfgliaaEr
set_option linter.unusedVariables false
namespace Go.Proofs.Ytimlfmklbfgliaa
open Go.RowKit Mq

def sameAt (e f : EdV) (k : Nat) : Bool := decide (edRow e k = edRow f k)
def sameB (e f : EdV) : Bool := !(anyB (fun k => !sameAt e f k) 16)
theorem att_beq (a b : Att) : (a.ok == b.ok && (a.pref == b.pref && (a.cost == b.cost && ((a.tags : Int) == (b.tags : Int))))) = decide (a = b) := by
  obtain ⟨a1, a2, a3, a4⟩ := a
  obtain ⟨b1, b2, b3, b4⟩ := b
  rw [Bool.eq_iff_iff]
  simp
  omega
theorem eq_attD (w : World) (d : Nat) (a b : Att) : (Op.equalIn (d + 2) 41 (.agg #[.bool a.ok, .int .i64 a.pref, .int .i64 a.cost, .int .u8 a.tags]) (.agg #[.bool b.ok, .int .i64 b.pref, .int .i64 b.cost, .int .u8 b.tags])).run Try.prog w = .ok (decide (a = b)) w := by
  rw [eq_att, att_beq]
set_option maxRecDepth 100000 in
set_option maxHeartbeats 2000000 in
theorem same_any (e f : EdV) (w : World) (he : EdOk w e) (hf : EdOk w f) :
    Calls Try.prog 11 #[.agg #[.int .i64 e.from_, .int .i64 e.cost, .slice e.ex.A e.ex.l.length e.ex.cap, .slice e.im.A e.im.l.length e.im.cap], .agg #[.int .i64 f.from_, .int .i64 f.cost, .slice f.ex.A f.ex.l.length f.ex.cap, .slice f.im.A f.im.l.length f.im.cap]] w
      fun en w' => en = .returned (.bool (sameB e f)) ∧ Below w.heap.size w w' := by
  have HE := Lib.hid he
  have HF := Lib.hid hf
  clear he hf
  go_enter Try.func11, Try.ntmps11
  go_wp2_with fail
  have b1 := gb_old _ (.cells #[.int .i64 f.from_, .int .i64 f.cost, .slice f.ex.A f.ex.l.length f.ex.cap, .slice f.im.A f.im.l.length f.im.cap] 30) (gb_new w (.cells #[.int .i64 e.from_, .int .i64 e.cost, .slice e.ex.A e.ex.l.length e.ex.cap, .slice e.im.A e.im.l.length e.im.cap] 30))
  have b2 := gb_new (w.alloc (.cells #[.int .i64 e.from_, .int .i64 e.cost, .slice e.ex.A e.ex.l.length e.ex.cap, .slice e.im.A e.im.l.length e.im.cap] 30)) (.cells #[.int .i64 f.from_, .int .i64 f.cost, .slice f.ex.A f.ex.l.length f.ex.cap, .slice f.im.A f.im.l.length f.im.cap] 30)
  have hB := gb_alloc (gb_alloc (Below.refl w.heap.size w) (.cells #[.int .i64 e.from_, .int .i64 e.cost, .slice e.ex.A e.ex.l.length e.ex.cap, .slice e.im.A e.im.l.length e.im.cap] 30)) (.cells #[.int .i64 f.from_, .int .i64 f.cost, .slice f.ex.A f.ex.l.length f.ex.cap, .slice f.im.A f.im.l.length f.im.cap] 30)
  simp only [World.size_alloc] at b2
  generalize (w.alloc (.cells #[.int .i64 e.from_, .int .i64 e.cost, .slice e.ex.A e.ex.l.length e.ex.cap, .slice e.im.A e.im.l.length e.im.cap] 30)).alloc (.cells #[.int .i64 f.from_, .int .i64 f.cost, .slice f.ex.A f.ex.l.length f.ex.cap, .slice f.im.A f.im.l.length f.im.cap] 30) = W at *
  have B1 := Lib.hid b1
  have B2 := Lib.hid b2
  have BB := Lib.hid hB
  have HE1 := Lib.hid (HE.out.below hB)
  have HF1 := Lib.hid (HF.out.below hB)
  clear b1 b2 hB
  go_loopw [10] (fun i wr => ∃ k : Nat, i = .int .u8 k ∧ k ≤ 16 ∧ Hid (anyB (fun k => !sameAt e f k) k = false) ∧ Below W.heap.size W wr) (fun i _ => 16 - (intOf i).toNat)
  case atStart => exact ⟨0, rfl, by omega, Lib.hid rfl, Below.refl _ _⟩
  case round =>
    obtain ⟨k, rfl, hk, HN, hb⟩ := hrel
    have B := Lib.hid hb
    by_cases hlt : k < 16
    · obtain ⟨x0, x1, x2, x3⟩ := gb_cells4 (gb_blk hb B1.out (gb_lt B1.out))
      clear hb
      go_wp2_with fail
      refine (row_any e k (by omega) wr (HE1.out.below B.out)).mono ?_
      rintro en w1 ⟨rfl, hb1⟩
      have HL : Hid (sameAt e f k = decide (edRow e k = edRow f k)) := Lib.hid rfl
      generalize edRow e k = q at *
      clear x0 x1 x2 x3
      have hb2 := gb_trans B.out hb1
      obtain ⟨x0, x1, x2, x3⟩ := gb_cells4 (gb_old _ (.cells #[.bool q.ok, .int .i64 q.pref, .int .i64 q.cost, .int .u8 q.tags] 41) (gb_blk hb2 B2.out (gb_lt B2.out)))
      have hb3 := gb_alloc hb2 (.cells #[.bool q.ok, .int .i64 q.pref, .int .i64 q.cost, .int .u8 q.tags] 41)
      have h6 := gb_new w1 (.cells #[.bool q.ok, .int .i64 q.pref, .int .i64 q.cost, .int .u8 q.tags] 41)
      go_upto_region 5 with fail
      generalize w1.alloc (.cells #[.bool q.ok, .int .i64 q.pref, .int .i64 q.cost, .int .u8 q.tags] 41) = w2 at *
      have BX := Lib.hid hb3
      have H6 := Lib.hid h6
      clear hb1 hb2 hb3 h6
      go_wp2_with fail
      refine (row_any f k (by omega) w2 (HF1.out.below BX.out)).mono ?_
      rintro en w3 ⟨rfl, hb4⟩
      generalize edRow f k = p at *
      have HA := fun w d => eq_attD w d q p
      have h6 := gb_old _ (.cells #[.bool p.ok, .int .i64 p.pref, .int .i64 p.cost, .int .u8 p.tags] 41) (gb_blk hb4 H6.out (gb_lt H6.out))
      have h8 := gb_new w3 (.cells #[.bool p.ok, .int .i64 p.pref, .int .i64 p.cost, .int .u8 p.tags] 41)
      have BY := Lib.hid (gb_alloc (gb_trans BX.out hb4) (.cells #[.bool p.ok, .int .i64 p.pref, .int .i64 p.cost, .int .u8 p.tags] 41))
      clear hb4 x0 x1 x2 x3
      go_upto_region 6 with fail
      generalize w3.alloc (.cells #[.bool p.ok, .int .i64 p.pref, .int .i64 p.cost, .int .u8 p.tags] 41) = w4 at *
      obtain ⟨x0, x1, x2, x3⟩ := gb_cells4 h6
      obtain ⟨y0, y1, y2, y3⟩ := gb_cells4 h8
      clear h6 h8
      by_cases hqp : q = p
      · subst hqp
        have HS : Hid (anyB (fun k => !sameAt e f k) (k + 1) = false) := Lib.hid (by rw [anyB, HN.out, HL.out]; simp)
        have HA' : ∀ w d, (Op.equalIn (d + 2) 41 (.agg #[.bool q.ok, .int .i64 q.pref, .int .i64 q.cost, .int .u8 q.tags]) (.agg #[.bool q.ok, .int .i64 q.pref, .int .i64 q.cost, .int .u8 q.tags])).run Try.prog w = .ok true w := fun w d => (HA w d).trans (by simp)
        clear HA
        go_wp2_with fail
        go_roundw
        case rel => exact ⟨k + 1, by go_num, by omega, HS, BY.out⟩
        case measure => simp [intOf] <;> omega
      · have HS : Hid (sameB e f = false) := Lib.hid (by rw [sameB, anyB_true hlt (by rw [HL.out]; simp [hqp])]; rfl)
        have HA' : ∀ w d, (Op.equalIn (d + 2) 41 (.agg #[.bool q.ok, .int .i64 q.pref, .int .i64 q.cost, .int .u8 q.tags]) (.agg #[.bool p.ok, .int .i64 p.pref, .int .i64 p.cost, .int .u8 p.tags])).run Try.prog w = .ok false w := fun w d => (HA w d).trans (by rw [decide_eq_false hqp])
        clear HA hqp
        cases hq : q.ok <;> cases hp : p.ok <;> rw [hq] at x0 <;> rw [hp] at y0 <;> simp only [hq, hp] at HA' <;> clear hq hp
        all_goals
          go_wp2_with fail
          go_ret
          exact ⟨rt_bool (by rw [HS.out]), gb_trans BB.out BY.out⟩
    · have hk' : k = 16 := by omega
      subst hk'
      have HS : Hid (sameB e f = true) := Lib.hid (by rw [sameB, HN.out]; rfl)
      go_wp2_with fail
      go_ret
      exact ⟨rt_bool (by rw [HS.out]), gb_trans BB.out B.out⟩
end Go.Proofs.Ytimlfmklbfgliaa
