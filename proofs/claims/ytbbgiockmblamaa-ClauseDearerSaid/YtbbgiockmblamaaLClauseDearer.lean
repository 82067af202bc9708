import Derived.Test.YtbbgiockmblamaaEq
import Derived.Test.YtbbgiockmblamaaRdt
import Derived.Test.YtbbgiockmblamaaShp
set_option linter.unusedVariables false
namespace Go.Proofs.Ytbbgiockmblamaa
open Go.RowKit Mq

attribute [local go_sem high] eq_att
set_option maxRecDepth 100000 in
set_option maxHeartbeats 4000000 in
theorem walk_ClauseDearer (s : SlV Cl) (o : Pfx) (c t : Nat) (w : World) (hs : SlOk clc 10 (fun _ c => c.Ok) w s) (ho : o.Ok) (hc : c < 65536) (ht : t < 256) :
    Calls Try.prog 5 #[.slice s.A s.l.length s.cap, .agg (pfxc o).toArray, .int .u16 c, .int .u8 t] w fun e w' => e = .returned (.bool true) ∧ Below w.heap.size w w' := by
  have S := Lib.hid hs.at_
  have HO := Lib.hid hs.ok
  have HL := Lib.hid hs.len_le
  have hu : IntKind.u8.signed = false := rfl
  clear hs
  unfold pfxc
  go_enter Try.func5, Try.ntmps5
  go_wp2_with fail
  have b5 := gb_new w (.cells #[.int .u32 o.addr, .int .i64 o.bits] 28)
  have hB := gb_alloc (Below.refl w.heap.size w) (.cells #[.int .u32 o.addr, .int .i64 o.bits] 28)
  generalize w.alloc (.cells #[.int .u32 o.addr, .int .i64 o.bits] 28) = W0 at *
  refine (awake11 W0).mono ?_
  rintro e w1 ⟨rfl, hb⟩
  have b51 := gb_blk hb b5 (gb_lt b5)
  have B1 := Lib.hid (gb_trans hB hb)
  have s51 := gb_lt b51
  have B51 := Lib.hid b51
  obtain ⟨p0, p1⟩ := gb_cells2 b51
  clear b5 hB hb b51
  obtain ⟨m, hm, hm16⟩ : ∃ m : Nat, (t : Int) % 16 = (m : Int) ∧ m < 16 := ⟨t % 16, by omega, by omega⟩
  have HM := Lib.hid hm
  clear hm
  go_wp2_with fail
  rw [HM.out]
  refine (do_any s.A s.cap s.l HO.out o ho ⟨true, 100, c, m⟩ (att_ok (by omega) (by omega) (by omega) (by omega) (by omega)) _ ((S.out.below (gb_alloc B1.out _)).more (gb_alloc B1.out _).size) HL.out).mono ?_
  rintro e w2 ⟨rfl, hb⟩
  have hd := dearer s.l o c m hc hm16 _ rfl
  generalize doL s.l o ⟨true, 100, c, m⟩ = r at *
  unfold attv
  have b9 := gb_blk hb (gb_new w1 (.cells #[.bool true, .int .i64 100, .int .i64 c, .int .u8 m] 24)) (by simp)
  have s9 := gb_lt b9
  obtain ⟨x0, x1, x2, x3⟩ := gb_cells4 b9
  have B2 := Lib.hid (gb_trans (gb_alloc B1.out (.cells #[.bool true, .int .i64 100, .int .i64 c, .int .u8 m] 24)) hb)
  clear b9 hb p0 p1
  rcases hd with rfl | ⟨h1, h2, h3, h4, h5, h6⟩
  · simp only [noAtt]
    go_wp2_with fail
    go_ret
    exact ⟨rt_bool (by simp), gb_alloc B2.out _⟩
  · rw [h1]
    clear h1
    go_wp2_with fail
    go_ret
    exact ⟨rt_bool (by simp), gb_alloc B2.out _⟩
end Go.Proofs.Ytbbgiockmblamaa
