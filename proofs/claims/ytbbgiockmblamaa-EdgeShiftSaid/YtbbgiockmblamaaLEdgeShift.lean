import Derived.Test.YtbbgiockmblamaaT12
import Derived.Test.YtbbgiockmblamaaEs
set_option linter.unusedVariables false
namespace Go.Proofs.Ytbbgiockmblamaa
open Go.RowKit Mq

attribute [local go_sem high] eq_att
theorem edge_shift (e : EdV) (c p m : Nat) (hc : c < 65536) (hm : m < 16) :
    (edRow e m = noAtt ∧ edTake e ⟨true, p, c, m⟩ = noAtt) ∨ ∃ (q k : Int) (g : Nat), 1 ≤ k ∧ k ≤ 1030 ∧ edRow e m = ⟨true, q, k, g⟩ ∧ edTake e ⟨true, p, c, m⟩ = ⟨true, q, k + c, g⟩ := by
  have h15 : m &&& 15 = m := by rw [show (15 : Nat) = 2 ^ 4 - 1 by rfl, Nat.and_two_pow_sub_one_eq_mod]; omega
  unfold edRow
  rw [h15]
  unfold edTake
  rw [takeL_shape (by omega) (by omega), takeL_shape (by omega) (by omega)]
  cases h : edgeL e.cost e.ex.l e.im.l m with
  | none => exact .inl ⟨rfl, rfl⟩
  | some s =>
    have hs := edgeL_ok h
    have h1 := hs.lo
    have h2 := hs.hi
    right
    obtain ⟨tg, more, pf⟩ := s
    have h3 := hs.some_
    simp only at h1 h2 h3
    cases pf with
    | none => simp at h3
    | some q =>
      refine ⟨q, more, tg, h1, h2, ?_, ?_⟩
      · simp only [outL, Option.getD_some]; rw [w64_id (by unfold is64; omega), Int.zero_add]
      · simp only [outL, Option.getD_some]; rw [w64_id (by unfold is64; omega), Int.add_comm]
set_option maxRecDepth 100000 in
set_option maxHeartbeats 4000000 in
theorem walk_EdgeShift (e : EdV) (c p t : Nat) (w : World) (he : EdOk w e) (hc : c < 65536) (hp : p < 256) (ht : t < 256) :
    Calls Try.prog 7 #[.agg (edc e).toArray, .int .u16 c, .int .u8 p, .int .u8 t] w fun e w' => e = .returned (.bool true) ∧ Below w.heap.size w w' := by
  have E := Lib.hid he
  have hu : IntKind.u8.signed = false := rfl
  clear he
  unfold edc slv
  go_enter Try.func7, Try.ntmps7
  go_wp2_with fail
  have b4 := gb_new w (.cells #[.int .i64 e.from_, .int .i64 e.cost, .slice e.ex.A e.ex.l.length e.ex.cap, .slice e.im.A e.im.l.length e.im.cap] 46)
  have hB := gb_alloc (Below.refl w.heap.size w) (.cells #[.int .i64 e.from_, .int .i64 e.cost, .slice e.ex.A e.ex.l.length e.ex.cap, .slice e.im.A e.im.l.length e.im.cap] 46)
  generalize w.alloc (.cells #[.int .i64 e.from_, .int .i64 e.cost, .slice e.ex.A e.ex.l.length e.ex.cap, .slice e.im.A e.im.l.length e.im.cap] 46) = W0 at *
  refine (awake12 W0).mono ?_
  rintro en w1 ⟨rfl, hb⟩
  have C4 := Lib.hid (gb_blk hb b4 (gb_lt b4))
  have B1 := Lib.hid (gb_trans hB hb)
  obtain ⟨x0, x1, x2, x3⟩ := gb_cells4 C4.out
  clear b4 hB hb
  obtain ⟨m, hm, hm16⟩ : ∃ m : Nat, (t : Int) % 16 = (m : Int) ∧ m < 16 := ⟨t % 16, by omega, by omega⟩
  have HM := Lib.hid hm
  clear hm
  go_wp2_with fail
  rw [HM.out]
  refine (row_any e m (by omega) w1 (E.out.below B1.out)).mono ?_
  rintro en w2 ⟨rfl, hb⟩
  have hsh := edge_shift e c p m hc hm16
  generalize edRow e m = r at *
  have C5 := Lib.hid (gb_old _ (.cells #[.bool r.ok, .int .i64 r.pref, .int .i64 r.cost, .int .u8 r.tags] 24) (gb_blk hb C4.out (gb_lt C4.out)))
  have C9 := Lib.hid (gb_new w2 (.cells #[.bool r.ok, .int .i64 r.pref, .int .i64 r.cost, .int .u8 r.tags] 24))
  have B2 := Lib.hid (gb_alloc (gb_trans B1.out hb) (.cells #[.bool r.ok, .int .i64 r.pref, .int .i64 r.cost, .int .u8 r.tags] 24))
  have HSH := Lib.hid hsh
  have z2 := (gb_trans B1.out hb).size
  clear hb x0 x1 x2 x3 hsh
  go_upto_region 4 with fail
  generalize w2.alloc (.cells #[.bool r.ok, .int .i64 r.pref, .int .i64 r.cost, .int .u8 r.tags] 24) = w3 at *
  obtain ⟨x0, x1, x2, x3⟩ := gb_cells4 C5.out
  go_wp2_with fail
  rw [HM.out]
  refine (take_any e ⟨true, p, c, m⟩ (att_ok (by omega) (by omega) (by omega) (by omega) (by omega)) w3 (E.out.below B2.out)).mono ?_
  rintro en w4 ⟨rfl, hb⟩
  have hsh := HSH.out
  generalize edTake e ⟨true, p, c, m⟩ = a at *
  have C6 := Lib.hid (gb_blk hb C9.out (gb_lt C9.out))
  have BX := Lib.hid (gb_trans B2.out hb)
  have s6 := gb_lt C6.out
  clear HSH hb x0 x1 x2 x3
  obtain ⟨y0, y1, y2, y3⟩ := gb_cells4 C6.out
  have f2 := gb_free C6.out 2
  unfold attv
  rcases hsh with ⟨rfl, rfl⟩ | ⟨q, k, g, h1, h2, rfl, rfl⟩
  · simp only [noAtt] at y0 y1 y2 y3 ⊢
    go_wp2_with fail
    go_ret
    exact ⟨rt_bool (by simp), gb_alloc BX.out _⟩
  · simp only at y0 y1 y2 y3 ⊢
    go_wp2_with fail
    go_ret
    refine ⟨rt_bool (by simp <;> omega), ?_⟩
    repeat (first | refine Below.setCell ?_ (by simp <;> omega) _ | refine gb_alloc ?_ _)
    exact BX.out
end Go.Proofs.Ytbbgiockmblamaa
