import Derived.Test.YtbbgiockmblamaaT12
import Derived.Test.YtbbgiockmblamaaEs
import Derived.Test.YtbbgiockmblamaaWi2
import Derived.Test.YtbbgiockmblamaaEl
set_option linter.unusedVariables false
namespace Go.Proofs.Ytbbgiockmblamaa
open Go.RowKit Mq

theorem gb_new' {w : World} {n : Nat} {o : Obj} (h : w.heap.size = n) : (w.alloc o).heap[n]? = some o := by subst h; exact gb_new w o
theorem gb_set4 {w : World} {b : Nat} {x0 x1 x2 x3 y0 y1 y2 y3 : Value} {t : TypeId} (h : w.heap[b]? = some (.cells #[x0, x1, x2, x3] t (0, 0))) : ((((w.setCell ⟨b, 0, none⟩ y0).setCell ⟨b, 1, none⟩ y1).setCell ⟨b, 2, none⟩ y2).setCell ⟨b, 3, none⟩ y3).heap[b]? = some (.cells #[y0, y1, y2, y3] t (0, 0)) := by
  simpa using gb_set (gb_set (gb_set (gb_set h 0 y0) 1 y1) 2 y2) 3 y3
theorem gb_setZ {w : World} {b : Nat} {y0 y1 y2 y3 : Value} (h : w.heap[b]? = some (.cells #[.int .i64 0, .int .i64 0, .slice none 0 0, .slice none 0 0] 46)) : ((((w.setCell ⟨b, 0, none⟩ y0).setCell ⟨b, 1, none⟩ y1).setCell ⟨b, 2, none⟩ y2).setCell ⟨b, 3, none⟩ y3).heap[b]? = some (.cells #[y0, y1, y2, y3] 46 (0, 0)) := gb_set4 h
theorem ed_of {wx w : World} {B c8 c9 : Nat} {f c : Int} {A8 A9 : Option Addr} {l l' : List Cl} (h1 : is64 f) (h2 : is64 c) (hl : ∀ c ∈ l, c.Ok) (hl5 : l.length ≤ 5) (hm : ∀ c ∈ l', c.Ok) (hm5 : l'.length ≤ 5)
    (o8 : OwnsCls w B (.slice A8 l.length c8) l) (o9 : OwnsCls w B (.slice A9 l'.length c9) l') (hk : ∀ k, k < w.heap.size → B ≤ k → wx.heap[k]? = w.heap[k]?) : EdOk wx ⟨f, c, ⟨A8, c8, l⟩, ⟨A9, c9, l'⟩⟩ :=
  have q8 : OwnsCls wx B (.slice A8 l.length c8) l := ow_move o8 fun k h h' _ => hk k h h'
  have q9 : OwnsCls wx B (.slice A9 l'.length c9) l' := ow_move o9 fun k h h' _ => hk k h h'
  ⟨h1, h2, ForPost.sl hl hl5 q8, ForPost.sl hm hm5 q9⟩
theorem anyB_none {g : Nat → Bool} (h : ∀ k, g k = false) : ∀ n, anyB g n = false
  | 0 => rfl
  | n + 1 => by rw [anyB, anyB_none h n, h n]; rfl
theorem sameB_from (e : EdV) (x : Int) : sameB e ⟨x, e.cost, e.ex, e.im⟩ = true := by
  unfold sameB
  rw [anyB_none (fun k => by simp [sameAt, edRow, edTake])]; rfl
theorem sameB_refl (e : EdV) : sameB e e = true := by
  unfold sameB
  rw [anyB_none (fun k => by simp [sameAt])]; rfl
/-- Two edges in boxes of their own. -/
structure Two (w1 wx : World) (b5 b6 : Nat) (E F : EdV) : Prop where
  ne : ¬ b5 = b6
  lo5 : w1.heap.size ≤ b5
  lo6 : w1.heap.size ≤ b6
  below : Below w1.heap.size w1 wx
  h5 : wx.heap[b5]? = some (.cells #[.int .i64 E.from_, .int .i64 E.cost, .slice E.ex.A E.ex.l.length E.ex.cap, .slice E.im.A E.im.l.length E.im.cap] 46)
  h6 : wx.heap[b6]? = some (.cells #[.int .i64 F.from_, .int .i64 F.cost, .slice F.ex.A F.ex.l.length F.ex.cap, .slice F.im.A F.im.l.length F.im.cap] 46)
  ok5 : EdOk wx E
  ok6 : EdOk wx F
attribute [local go_sem high] eq_att
set_option maxRecDepth 100000 in
set_option maxHeartbeats 4000000 in
theorem walk_EdgeSame (v u : WiV) (w : World) (hv : WiOk w v) (hu : WiOk w u) :
    Calls Try.prog 14 #[.agg (wic v).toArray, .agg (wic u).toArray] w fun e w' => e = .returned (.bool true) ∧ Below w.heap.size w w' := by
  have V := Lib.hid hv; have U := Lib.hid hu
  clear hv hu
  unfold wic slv
  go_enter Try.func14, Try.ntmps14
  go_wp2_with fail
  have b2 := gb_old _ (.cells #[.int .u8 u.from_, .int .u8 u.cost, .slice u.ex.A u.ex.l.length u.ex.cap, .slice u.im.A u.im.l.length u.im.cap] 59) (gb_new w (.cells #[.int .u8 v.from_, .int .u8 v.cost, .slice v.ex.A v.ex.l.length v.ex.cap, .slice v.im.A v.im.l.length v.im.cap] 59))
  have b3 := gb_new (w.alloc (.cells #[.int .u8 v.from_, .int .u8 v.cost, .slice v.ex.A v.ex.l.length v.ex.cap, .slice v.im.A v.im.l.length v.im.cap] 59)) (.cells #[.int .u8 u.from_, .int .u8 u.cost, .slice u.ex.A u.ex.l.length u.ex.cap, .slice u.im.A u.im.l.length u.im.cap] 59)
  have hB := gb_alloc (gb_alloc (Below.refl w.heap.size w) (.cells #[.int .u8 v.from_, .int .u8 v.cost, .slice v.ex.A v.ex.l.length v.ex.cap, .slice v.im.A v.im.l.length v.im.cap] 59)) (.cells #[.int .u8 u.from_, .int .u8 u.cost, .slice u.ex.A u.ex.l.length u.ex.cap, .slice u.im.A u.im.l.length u.im.cap] 59)
  simp only [World.size_alloc] at b3
  generalize (w.alloc (.cells #[.int .u8 v.from_, .int .u8 v.cost, .slice v.ex.A v.ex.l.length v.ex.cap, .slice v.im.A v.im.l.length v.im.cap] 59)).alloc (.cells #[.int .u8 u.from_, .int .u8 u.cost, .slice u.ex.A u.ex.l.length u.ex.cap, .slice u.im.A u.im.l.length u.im.cap] 59) = W0 at *
  refine (awake12 W0).mono ?_
  rintro en w1 ⟨rfl, hb⟩
  have c2 := gb_blk hb b2 (gb_lt b2)
  have c3 := gb_blk hb b3 (gb_lt b3)
  have B1 := Lib.hid (gb_trans hB hb)
  have hS : ∀ w', Below w1.heap.size w1 w' → w'.cell? ⟨w.heap.size, 0, none⟩ = some (.int .u8 v.from_) ∧ w'.cell? ⟨w.heap.size, 1, none⟩ = some (.int .u8 v.cost) ∧ w'.cell? ⟨w.heap.size, 2, none⟩ = some (.slice v.ex.A v.ex.l.length v.ex.cap) ∧ w'.cell? ⟨w.heap.size, 3, none⟩ = some (.slice v.im.A v.im.l.length v.im.cap) ∧ w'.cell? ⟨w.heap.size + 1, 0, none⟩ = some (.int .u8 u.from_) ∧ w'.cell? ⟨w.heap.size + 1, 1, none⟩ = some (.int .u8 u.cost) ∧ w'.cell? ⟨w.heap.size + 1, 2, none⟩ = some (.slice u.ex.A u.ex.l.length u.ex.cap) ∧ w'.cell? ⟨w.heap.size + 1, 3, none⟩ = some (.slice u.im.A u.im.l.length u.im.cap) := fun w' hb => by
    have h := gb_blk hb c2 (gb_lt c2)
    have h' := gb_blk hb c3 (gb_lt c3)
    exact ⟨gb_cell h 0, gb_cell h 1, gb_cell h 2, gb_cell h 3, gb_cell h' 0, gb_cell h' 1, gb_cell h' 2, gb_cell h' 3⟩
  have HS := Lib.hid hS
  have BD := Lib.hid ((Below.refl w1.heap.size w1).drew)
  have l2 := gb_lt c2
  have l3 := gb_lt c3
  clear hS b2 b3 c2 c3 hB hb
  go_upto_region 3 with fail
  generalize w.heap.size + 1 = bu at *
  have m1 : w.heap.size < w1.heap.size + 1 := by omega
  have m2 : bu < w1.heap.size + 1 := by omega
  go_cut [5, 6] (fun s5 s6 wx => ∃ (b5 b6 : Nat) (E F : EdV), s5 = .pointer (some ⟨b5, 0, none⟩) ∧ s6 = .pointer (some ⟨b6, 0, none⟩) ∧ Hid (Two w1 wx b5 b6 E F))
  case first =>
    obtain ⟨x0, x1, x2, x3, y0, y1, y2, y3⟩ := HS.out _ BD.out
    obtain ⟨p0, p1, p2, p3, q0, q1, q2, q3⟩ := HS.out _ (Below.refl w1.heap.size w1)
    go_region_held3 (fun w' => w'.cell? ⟨w.heap.size, 0, none⟩ = some (.int .u8 v.from_) ∧ w'.cell? ⟨w.heap.size, 1, none⟩ = some (.int .u8 v.cost) ∧ w'.cell? ⟨w.heap.size, 2, none⟩ = some (.slice v.ex.A v.ex.l.length v.ex.cap) ∧ w'.cell? ⟨w.heap.size, 3, none⟩ = some (.slice v.im.A v.im.l.length v.im.cap) ∧ w'.cell? ⟨bu, 0, none⟩ = some (.int .u8 u.from_) ∧ w'.cell? ⟨bu, 1, none⟩ = some (.int .u8 u.cost) ∧ w'.cell? ⟨bu, 2, none⟩ = some (.slice u.ex.A u.ex.l.length u.ex.cap) ∧ w'.cell? ⟨bu, 3, none⟩ = some (.slice u.im.A u.im.l.length u.im.cap))
      (first | exact HS.out _ (by repeat (with_reducible first | exact BD.out | exact B8.out | exact B9.out | exact Below.refl _ _ | refine gb_alloc ?_ _ | refine Below.drew ?_ | refine Below.setCell ?_ (by simp <;> omega) _)))
      (first | (go_at_call_of 28 v.ex.A; refine (wire2_any v _ (V.out.below (gb_trans B1.out (by repeat (with_reducible first | exact BD.out | exact Below.refl _ _ | refine gb_alloc ?_ _ | refine Below.drew ?_))))).mono ?_; rintro en w8 ⟨A8, c8, A9, c9, rfl, o8, o9, hb8⟩; unfold edv; have B8 := Lib.hid (gb_trans (show Below w1.heap.size w1 _ by repeat (with_reducible first | exact BD.out | exact Below.refl _ _ | refine gb_alloc ?_ _ | refine Below.drew ?_)) hb8); obtain ⟨x0, x1, x2, x3, y0, y1, y2, y3⟩ := HS.out _ B8.out; (first | (have T6 := Lib.hid (gb_blk hb8 (gb_new (w1.alloc (.cells #[.int .i64 0, .int .i64 0, .slice none 0 0, .slice none 0 0] 46)) (.cells #[.int .i64 0, .int .i64 0, .slice none 0 0, .slice none 0 0] 46)) (by simp <;> omega)); have T5 := Lib.hid (gb_blk hb8 (gb_old _ (.cells #[.int .i64 0, .int .i64 0, .slice none 0 0, .slice none 0 0] 46) (gb_new w1 (.cells #[.int .i64 0, .int .i64 0, .slice none 0 0, .slice none 0 0] 46))) (by simp <;> omega)); simp only [World.size_alloc] at T6) | (have T5 := Lib.hid (gb_blk hb8 (gb_new w1 (.cells #[.int .i64 0, .int .i64 0, .slice none 0 0, .slice none 0 0] 46)) (by simp <;> omega))) | skip); have z8 := B8.out.size; have l22 : w.heap.size < w8.heap.size := (by omega); have l32 : bu < w8.heap.size := (by omega); have m3 : bu < w8.heap.size + 1 := (by omega); have O8 := Lib.hid o8; have O9 := Lib.hid o9; have HB8 := Lib.hid hb8; clear o8 o9 hb8) | (go_at_call_of 28 u.ex.A; refine (wire2_any u _ (U.out.below (gb_trans B1.out (by repeat (with_reducible first | exact B8.out | refine gb_alloc ?_ _))))).mono ?_; rintro en w9 ⟨A10, c10, A11, c11, rfl, o10, o11, hb9⟩; unfold edv; have B9 := Lib.hid (gb_trans (show Below w1.heap.size w1 _ by repeat (with_reducible first | exact B8.out | refine gb_alloc ?_ _)) hb9); have z8 := B8.out.size; have z9 := hb9.size; (try simp only [World.size_alloc, World.size_drew] at z9); (first | (have f6 := gb_blk hb9 T6.out (gb_lt T6.out); have f5 := gb_blk hb9 T5.out (gb_lt T5.out); have l5 := gb_lt T5.out; have l6 := gb_lt T6.out) | (have f6 := gb_blk hb9 (gb_new w8 (.cells #[.int .i64 0, .int .i64 0, .slice none 0 0, .slice none 0 0] 46)) (by simp <;> omega); have f5 := gb_blk hb9 (gb_old _ (.cells #[.int .i64 0, .int .i64 0, .slice none 0 0, .slice none 0 0] 46) T5.out) (by have := gb_lt T5.out; simp; omega); have l5 := gb_lt T5.out) | (have f5 := gb_blk hb9 T5.out (gb_lt T5.out); have l5 := gb_lt T5.out) | (have f6 := gb_blk hb9 (gb_new (w8.alloc (.cells #[.int .i64 0, .int .i64 0, .slice none 0 0, .slice none 0 0] 46)) (.cells #[.int .i64 0, .int .i64 0, .slice none 0 0, .slice none 0 0] 46)) (by simp <;> omega); have f5 := gb_blk hb9 (gb_old _ (.cells #[.int .i64 0, .int .i64 0, .slice none 0 0, .slice none 0 0] 46) (gb_new w8 (.cells #[.int .i64 0, .int .i64 0, .slice none 0 0, .slice none 0 0] 46))) (by simp <;> omega); simp only [World.size_alloc] at f6) | (have f5 := gb_blk hb9 (gb_new w8 (.cells #[.int .i64 0, .int .i64 0, .slice none 0 0, .slice none 0 0] 46)) (by simp <;> omega)) | skip); (try (obtain ⟨x0, x1, x2, x3⟩ := gb_cells4 f5; have g0 := gb_free f5 0; have g1 := gb_free f5 1; have g2 := gb_free f5 2; have g3 := gb_free f5 3; have s5 := gb_lt f5)); (try (obtain ⟨y0, y1, y2, y3⟩ := gb_cells4 f6; have h0 := gb_free f6 0; have h1 := gb_free f6 1; have h2 := gb_free f6 2; have h3 := gb_free f6 3; have s6 := gb_lt f6)); (try (have F5 := Lib.hid f5; clear f5)); (try (have F6 := Lib.hid f6; clear f6)); (try (have n1 : ¬ w1.heap.size = w8.heap.size := (by omega); have n2 : ¬ w8.heap.size = w1.heap.size := (by omega))); have O10 := Lib.hid o10; have O11 := Lib.hid o11; have HB9 := Lib.hid hb9; clear o10 o11 hb9))
    all_goals (go_wp2_with fail; go_meet)
    all_goals (have is1 := V.out.from_; have is2 := V.out.cost; have is3 := U.out.from_; have is4 := U.out.cost)
    all_goals (
      refine ⟨_, _, ⟨(v.from_ : Int), 1 + (v.cost : Int) % 3, ⟨A8, c8, plainL v.ex.l⟩, ⟨A9, c9, plainL v.im.l⟩⟩, ⟨(u.from_ : Int), 1 + (u.cost : Int) % 3, ⟨A10, c10, plainL u.ex.l⟩, ⟨A11, c11, plainL u.im.l⟩⟩, rfl, rfl, Lib.hid ⟨?_, ?_, ?_, ?_, ?_, ?_, ?_, ?_⟩⟩
      · omega
      · omega
      · omega
      · repeat (first | (with_reducible exact B9.out) | (with_reducible refine gb_alloc ?_ _) | (with_reducible refine Below.setCell ?_ (by first | omega | (simp <;> omega)) _))
      · repeat (first | (with_reducible exact F5.out) | (with_reducible exact F6.out) | (with_reducible exact gb_new' (by simp)) | (with_reducible refine gb_setZ ?_) | (with_reducible refine gb_old _ _ ?_) | (with_reducible refine gb_far ?_ (by first | omega | (simp <;> omega)) _))
      · repeat (first | (with_reducible exact F5.out) | (with_reducible exact F6.out) | (with_reducible exact gb_new' (by simp)) | (with_reducible refine gb_setZ ?_) | (with_reducible refine gb_old _ _ ?_) | (with_reducible refine gb_far ?_ (by first | omega | (simp <;> omega)) _))
      · refine ed_of (by simp only [is64]; omega) (by simp only [is64]; omega) (plainL_ok V.out.ex.ok) (plainL_len _) (plainL_ok V.out.im.ok) (plainL_len _) O8.out O9.out (fun k hk hB => ?_)
        (try simp only [World.size_alloc, World.size_drew] at hB)
        refine Eq.trans (b := w9.heap[k]?) ?_ ((HB9.out.block k (by first | omega | (simp <;> omega))).trans ?_)
        · repeat (first | (with_reducible rfl) | (with_reducible refine (Below.heap_alloc _ _ _ (by first | omega | (simp <;> omega))).trans ?_) | (with_reducible refine (Below.heap_setCell _ _ _ _ (by first | omega | (simp <;> omega))).trans ?_))
        · repeat (first | (with_reducible rfl) | (with_reducible refine (Below.heap_alloc _ _ _ (by first | omega | (simp <;> omega))).trans ?_) | (with_reducible refine (Below.heap_setCell _ _ _ _ (by first | omega | (simp <;> omega))).trans ?_))
      · refine ed_of (by simp only [is64]; omega) (by simp only [is64]; omega) (plainL_ok U.out.ex.ok) (plainL_len _) (plainL_ok U.out.im.ok) (plainL_len _) O10.out O11.out (fun k hk hB => ?_)
        (try simp only [World.size_alloc, World.size_drew] at hB)
        repeat (first | (with_reducible rfl) | (with_reducible refine (Below.heap_alloc _ _ _ (by first | omega | (simp <;> omega))).trans ?_) | (with_reducible refine (Below.heap_setCell _ _ _ _ (by first | omega | (simp <;> omega))).trans ?_)))
  case rest =>
    obtain ⟨b5, b6, e, f, rfl, rfl, HT⟩ := hcut
    have BC := Lib.hid (gb_trans B1.out HT.out.below)
    clear HS BD l2 l3 m1 m2
    go_wp2_with fail
    go_loopw [7, 8] (fun s7 s8 wr => ∃ (k : Nat) (sb : Bool), s8 = .int .u8 k ∧ k ≤ 16 ∧ s7 = .bool sb ∧ Hid (sb = !(anyB (fun j => !sameAt e f j) k)) ∧ Below wc.heap.size wc wr) (fun _ i _ => 16 - (intOf i).toNat)
    case atStart => exact ⟨0, true, rfl, by omega, rfl, Lib.hid rfl, Below.refl _ _⟩
    case round =>
      obtain ⟨k, sb, rfl, hk, rfl, HSB, hb⟩ := hrel
      have B := Lib.hid hb
      have C5 := Lib.hid (gb_blk hb HT.out.h5 (gb_lt HT.out.h5))
      have C6 := Lib.hid (gb_blk hb HT.out.h6 (gb_lt HT.out.h6))
      have HEe := Lib.hid (HT.out.ok5.below hb)
      have HEf := Lib.hid (HT.out.ok6.below hb)
      clear hb
      by_cases hlt : k < 16
      · have HR : Hid (sameAt e f k = decide (edTake e ⟨true, 100, 0, k⟩ = edTake f ⟨true, 100, 0, k⟩)) := Lib.hid (by unfold sameAt edRow; rw [and15_small hlt])
        have BO := Lib.hid (att_ok (b := true) (p := 100) (c := 0) (m := k) (by omega) (by omega) (by omega) (by omega) (by omega))
        go_upto_region 8 with fail
        cases sb with
        | false =>
          have HN : Hid (false = !(anyB (fun j => !sameAt e f j) (k + 1))) := Lib.hid (by have := HSB.out; rw [anyB]; simp only [Bool.not_or]; rw [← this]; simp)
          refine wp_region_in (Below wr.heap.size wr) (by kernel_rfl) (by kernel_rfl) (Below.refl _ _).drew ?_
          repeat (go_big_quiet_step (fail))
          refine wpQuiet_nil ?_
          rintro _ ⟨⟨w9, hb⟩, rfl⟩
          have BF := Lib.hid (gb_trans B.out hb)
          clear hb
          go_wp2_with fail
          go_roundw
          case rel => exact ⟨k + 1, false, by go_num, by omega, rfl, HN, BF.out⟩
          case measure => simp [intOf] <;> omega
        | true =>
          obtain ⟨q, hq⟩ : ∃ q, q = edTake e ⟨true, 100, 0, k⟩ := ⟨_, rfl⟩
          obtain ⟨p, hp⟩ : ∃ p, p = edTake f ⟨true, 100, 0, k⟩ := ⟨_, rfl⟩
          have HN : Hid ((q.ok == p.ok && (q.pref == p.pref && (q.cost == p.cost && ((q.tags : Int) == (p.tags : Int))))) = !(anyB (fun j => !sameAt e f j) (k + 1))) := Lib.hid (by have := HSB.out; rw [anyB]; simp only [Bool.not_or]; rw [← this, HR.out, att_beq, hq, hp]; simp)
          have k1 : ∀ x : InW (Below wr.heap.size wr), Calls Try.prog 29 #[.agg #[.int .i64 e.from_, .int .i64 e.cost, .slice e.ex.A e.ex.l.length e.ex.cap, .slice e.im.A e.im.l.length e.im.cap], .agg #[.bool true, .int .i64 100, .int .i64 0, .int .u8 k]] x.val fun e w' => e = .returned (.agg #[.bool q.ok, .int .i64 q.pref, .int .i64 q.cost, .int .u8 q.tags]) ∧ ∃ y : InW (Below wr.heap.size wr), w' = y.val :=
            calls_in fun w' hb => by have := take12_any e ⟨true, 100, 0, k⟩ BO.out w' (HEe.out.below hb); rw [← hq] at this; exact this
          have K1 := Lib.hid k1
          clear k1
          have k2 : ∀ x : InW (Below wr.heap.size wr), Calls Try.prog 29 #[.agg #[.int .i64 f.from_, .int .i64 f.cost, .slice f.ex.A f.ex.l.length f.ex.cap, .slice f.im.A f.im.l.length f.im.cap], .agg #[.bool true, .int .i64 100, .int .i64 0, .int .u8 k]] x.val fun e w' => e = .returned (.agg #[.bool p.ok, .int .i64 p.pref, .int .i64 p.cost, .int .u8 p.tags]) ∧ ∃ y : InW (Below wr.heap.size wr), w' = y.val :=
            calls_in fun w' hb => by have := take12_any f ⟨true, 100, 0, k⟩ BO.out w' (HEf.out.below hb); rw [← hp] at this; exact this
          have K2 := Lib.hid k2
          clear k2 hq hp
          obtain ⟨x0, x1, x2, x3⟩ := in_cells4 C5.out
          obtain ⟨y0, y1, y2, y3⟩ := in_cells4 C6.out
          refine wp_region_in (Below wr.heap.size wr) (by kernel_rfl) (by kernel_rfl) (Below.refl _ _).drew ?_
          repeat (go_big_quiet_step (first | (with_reducible exact K1.out _) | (with_reducible exact K2.out _)))
          refine wpQuiet_nil ?_
          rintro _ ⟨⟨w9, hb⟩, rfl⟩
          have BF := Lib.hid (gb_trans B.out hb)
          clear hb x0 x1 x2 x3 y0 y1 y2 y3
          go_wp2_with fail
          go_roundw
          case rel => exact ⟨k + 1, _, by go_num, by omega, rfl, HN, BF.out⟩
          case measure => simp [intOf] <;> omega
      · have hk' : k = 16 := by omega
        subst hk'
        have HSE : Hid (sameB e f = sb) := Lib.hid HSB.out.symm
        obtain ⟨x0, x1, x2, x3⟩ := gb_cells4 C5.out
        have s5 := gb_lt C5.out
        go_upto_region 10 with fail
        have t9 := gb_new wr (.cells #[.int .i64 e.from_, .int .i64 e.cost, .slice e.ex.A e.ex.l.length e.ex.cap, .slice e.im.A e.im.l.length e.im.cap] 46)
        have D5 := Lib.hid (gb_old _ (.cells #[.int .i64 e.from_, .int .i64 e.cost, .slice e.ex.A e.ex.l.length e.ex.cap, .slice e.im.A e.im.l.length e.im.cap] 46) C5.out)
        have D6 := Lib.hid (gb_old _ (.cells #[.int .i64 e.from_, .int .i64 e.cost, .slice e.ex.A e.ex.l.length e.ex.cap, .slice e.im.A e.im.l.length e.im.cap] 46) C6.out)
        have hBe := gb_alloc (Below.refl wr.heap.size wr) (.cells #[.int .i64 e.from_, .int .i64 e.cost, .slice e.ex.A e.ex.l.length e.ex.cap, .slice e.im.A e.im.l.length e.im.cap] 46)
        clear x0 x1 x2 x3
        generalize wr.alloc (.cells #[.int .i64 e.from_, .int .i64 e.cost, .slice e.ex.A e.ex.l.length e.ex.cap, .slice e.im.A e.im.l.length e.im.cap] 46) = w2 at *
        obtain ⟨z0, z1, z2, z3⟩ := gb_cells4 t9
        have g0 := gb_free t9 0
        have T9 := Lib.hid t9
        have BE := Lib.hid hBe
        clear t9 hBe
        go_upto_region 11 with fail
        have hx : is64 (wrap64 (e.from_ + 1)) := by simp only [is64, wrap64]; omega
        generalize wrap64 (e.from_ + 1) = x at *
        have BX := Lib.hid (BE.out.setCell (p := ⟨wr.heap.size, 0, none⟩) (Nat.le_refl _) (.int .i64 x))
        have X9 : Hid ((w2.setCell ⟨wr.heap.size, 0, none⟩ (.int .i64 x)).heap[wr.heap.size]? = some (.cells #[.int .i64 x, .int .i64 e.cost, .slice e.ex.A e.ex.l.length e.ex.cap, .slice e.im.A e.im.l.length e.im.cap] 46 (0, 0))) := Lib.hid (gb_set T9.out 0 _)
        have X5 := Lib.hid (gb_blk BX.out C5.out (gb_lt C5.out))
        have X6 := Lib.hid (gb_blk BX.out C6.out (gb_lt C6.out))
        clear z0 z1 z2 z3 g0 T9 BE D5 D6
        generalize w2.setCell ⟨wr.heap.size, 0, none⟩ (.int .i64 x) = w3 at *
        obtain ⟨x0, x1, x2, x3⟩ := gb_cells4 X5.out
        obtain ⟨y0, y1, y2, y3⟩ := gb_cells4 X6.out
        go_wp2_with fail
        have c1 := same_any e f w3 (HEe.out.below BX.out) (HEf.out.below BX.out)
        rw [HSE.out] at c1
        refine c1.mono ?_
        clear c1
        rintro _ w4 ⟨rfl, hb4⟩
        have Y9 := Lib.hid (gb_blk hb4 X9.out (gb_lt X9.out))
        have Y5 := Lib.hid (gb_blk hb4 X5.out (gb_lt X5.out))
        have Y6 := Lib.hid (gb_blk hb4 X6.out (gb_lt X6.out))
        have B4 := Lib.hid (gb_trans BX.out hb4)
        clear hb4 x0 x1 x2 x3 y0 y1 y2 y3
        obtain ⟨x0, x1, x2, x3⟩ := gb_cells4 Y5.out
        obtain ⟨y0, y1, y2, y3⟩ := gb_cells4 Y9.out
        have HFR := Lib.hid (sameB_from e x)
        have HRF := Lib.hid (sameB_refl f)
        have HX := Lib.hid hx
        clear hx
        go_wp2_with fail
        have c1 := same_any e ⟨x, e.cost, e.ex, e.im⟩ w4 (HEe.out.below B4.out) ⟨HX.out, (HEe.out.below B4.out).cost, (HEe.out.below B4.out).ex, (HEe.out.below B4.out).im⟩
        rw [HFR.out] at c1
        refine c1.mono ?_
        clear c1
        rintro _ w5 ⟨rfl, hb5⟩
        have Z6 := Lib.hid (gb_blk hb5 Y6.out (gb_lt Y6.out))
        have B5 := Lib.hid (gb_trans B4.out hb5)
        clear hb5 x0 x1 x2 x3 y0 y1 y2 y3
        obtain ⟨x0, x1, x2, x3⟩ := gb_cells4 Z6.out
        go_wp2_with fail
        have c1 := same_any f f w5 (HEf.out.below B5.out) (HEf.out.below B5.out)
        rw [HRF.out] at c1
        refine c1.mono ?_
        clear c1
        rintro _ w6 ⟨rfl, hb6⟩
        have B6 := Lib.hid (gb_trans BC.out (gb_trans B.out (gb_trans B5.out hb6)))
        clear hb6 x0 x1 x2 x3
        go_wp2_with fail
        go_ret
        exact ⟨rfl, B6.out⟩
end Go.Proofs.Ytbbgiockmblamaa
