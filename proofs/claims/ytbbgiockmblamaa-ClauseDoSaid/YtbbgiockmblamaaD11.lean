import Derived.Test.YtbbgiockmblamaaCd
set_option linter.unusedVariables false
namespace Go.Proofs.Ytbbgiockmblamaa
open Go.RowKit Mq
attribute [local go_sem high] max2_ii min2_ii

theorem u8_not_nat (x : Nat) (hx : x < 256) : bits .xor .u8 IntKind.u8.max (x : Int) = ((255 - x : Nat) : Int) := by
  have h : IntKind.u8.max = ((255 : Nat) : Int) := rfl
  rw [h, u8_xor_nat 255 x (by omega) hx]
  congr 1
  have := Nat.xor_comm 255 x
  refine Nat.eq_of_testBit_eq fun i => ?_
  have h2 := Nat.testBit_two_pow_sub_succ (n := 8) (x := x) hx i
  rw [show (2 ^ 8 - (x + 1)) = 255 - x by omega] at h2
  rw [Nat.testBit_xor, h2]
  have h3 := Nat.testBit_two_pow_sub_one 8 i
  rw [show 2 ^ 8 - 1 = 255 by rfl] at h3
  rw [h3]
  by_cases hi : i < 8
  · simp [hi]
  · rw [Nat.testBit_lt_two_pow (Nat.lt_of_lt_of_le hx (Nat.pow_le_pow_right (n := 2) (by omega) (show 8 ≤ i by omega)))]; simp [hi]
theorem neq_dec (n : Nat) : (((n : Nat) : Int) != 0) = decide (¬ n = 0) := by rw [Bool.eq_iff_iff]; simp
theorem not_test {t x : Nat} (ht : t < 256) (hx : x < 256) : (bits .and .u8 (bits .xor .u8 IntKind.u8.max (t : Int)) (x : Int) != 0) = decide (¬ t &&& x = x) := by
  rw [u8_not_nat t ht, u8_and_nat _ _ (by omega) hx, neq_dec, decide_eq_decide, with_iff ht hx]
theorem out_test {t x : Nat} (ht : t < 256) (hx : x < 256) : (bits .and .u8 (t : Int) (x : Int) != 0) = decide (¬ t &&& x = 0) := by
  rw [u8_and_nat _ _ ht hx, neq_dec]
theorem do_tags {t x y : Nat} (ht : t < 256) (hx : x < 256) (hy : y < 256) : bits .and .u8 (bits .and .u8 (bits .or .u8 (t : Int) (x : Int)) (bits .xor .u8 IntKind.u8.max (y : Int))) 15 = (((t ||| x) &&& (255 - y) &&& 15 : Nat) : Int) := by
  have h1 := or_lt8 ht hx
  rw [u8_or_nat _ _ ht hx, u8_not_nat _ hy, u8_and_nat _ _ h1 (by omega)]
  exact u8_and_nat _ 15 (and_lt h1) (by omega)
theorem actL_cases (c : Cl) (a : Att) (hd : c.drop = false) (hc : is64 a.cost) :
    (15 < c.more → ((1 ≤ c.pref ∧ c.pref ≤ 255 → actL c a = ⟨true, c.pref, wrap64 (a.cost + 15), (a.tags ||| c.set) &&& (255 - c.clr) &&& 15⟩) ∧ (¬ (1 ≤ c.pref ∧ c.pref ≤ 255) → actL c a = ⟨true, a.pref, wrap64 (a.cost + 15), (a.tags ||| c.set) &&& (255 - c.clr) &&& 15⟩))) ∧
    (¬ 15 < c.more → 0 < c.more → ((1 ≤ c.pref ∧ c.pref ≤ 255 → actL c a = ⟨true, c.pref, wrap64 (a.cost + c.more), (a.tags ||| c.set) &&& (255 - c.clr) &&& 15⟩) ∧ (¬ (1 ≤ c.pref ∧ c.pref ≤ 255) → actL c a = ⟨true, a.pref, wrap64 (a.cost + c.more), (a.tags ||| c.set) &&& (255 - c.clr) &&& 15⟩))) ∧
    (¬ 0 < c.more → ((1 ≤ c.pref ∧ c.pref ≤ 255 → actL c a = ⟨true, c.pref, a.cost, (a.tags ||| c.set) &&& (255 - c.clr) &&& 15⟩) ∧ (¬ (1 ≤ c.pref ∧ c.pref ≤ 255) → actL c a = ⟨true, a.pref, a.cost, (a.tags ||| c.set) &&& (255 - c.clr) &&& 15⟩))) := by
  have hp : ∀ q : Prop, [Decidable q] → (q ↔ (0 < c.pref ∧ c.pref ≤ 255)) → True := fun _ _ _ => trivial
  refine ⟨fun h => ⟨fun g => ?_, fun g => ?_⟩, fun h h' => ⟨fun g => ?_, fun g => ?_⟩, fun h => ⟨fun g => ?_, fun g => ?_⟩⟩ <;> unfold actL <;> rw [if_neg (by rw [hd]; simp)]
  · rw [if_pos (by omega), show max 0 (min c.more 15) = 15 by omega, w64_wrap]
  · rw [if_neg (by omega), show max 0 (min c.more 15) = 15 by omega, w64_wrap]
  · rw [if_pos (by omega), show max 0 (min c.more 15) = c.more by omega, w64_wrap]
  · rw [if_neg (by omega), show max 0 (min c.more 15) = c.more by omega, w64_wrap]
  · rw [if_pos (by omega), show max 0 (min c.more 15) = 0 by omega, Int.add_zero, w64_id hc]
  · rw [if_neg (by omega), show max 0 (min c.more 15) = 0 by omega, Int.add_zero, w64_id hc]

set_option maxRecDepth 100000 in
set_option maxHeartbeats 16000000 in
theorem do11_any (A : Option Addr) (cap : Nat) (cs : List Cl) (hcs : ∀ c ∈ cs, c.Ok) (o : Pfx) (ho : o.Ok) (a : Att) (ha : a.Ok) (w : World) (hs : ClsAt w w.heap.size A cs) (hn : cs.length ≤ 9223372036854775807) :
    Calls Try.prog 19 #[.slice A cs.length cap, pfxv o, attv a] w (DoPost w (doL cs o a)) := by
  unfold pfxv attv
  cases hok : a.ok with
  | false =>
    have HR : Hid (doL cs o a = noAtt) := Lib.hid (by simp [doL, hok])
    go_enter Try.func19, Try.ntmps19
    go_wp2_with fail
    refine bodyPost_ret (v := attv noAtt) (by simp [results, Try.results19, go_sem, attv, noAtt]) rfl ⟨by rw [HR.out], gb_alloc (gb_alloc (gb_alloc (Below.refl _ _) _) _) _⟩
  | true =>
    have HR : Hid (doL cs o a = goL cs o a) := Lib.hid (by simp [doL, hok])
    go_enter Try.func19, Try.ntmps19
    go_wp2_with fail
    have b0 := gb_old _ (.cells #[.bool false, .int .i64 0, .int .i64 0, .int .u8 0] 24) (gb_old _ (.cells #[.bool true, .int .i64 a.pref, .int .i64 a.cost, .int .u8 a.tags] 24) (gb_new w (.cells #[.int .u32 o.addr, .int .i64 o.bits] 28)))
    have b1 := gb_old _ (.cells #[.bool false, .int .i64 0, .int .i64 0, .int .u8 0] 24) (gb_new (w.alloc (.cells #[.int .u32 o.addr, .int .i64 o.bits] 28)) (.cells #[.bool true, .int .i64 a.pref, .int .i64 a.cost, .int .u8 a.tags] 24))
    have b2 := gb_new ((w.alloc (.cells #[.int .u32 o.addr, .int .i64 o.bits] 28)).alloc (.cells #[.bool true, .int .i64 a.pref, .int .i64 a.cost, .int .u8 a.tags] 24)) (.cells #[.bool false, .int .i64 0, .int .i64 0, .int .u8 0] 24)
    have hB := gb_alloc (gb_alloc (gb_alloc (Below.refl w.heap.size w) (.cells #[.int .u32 o.addr, .int .i64 o.bits] 28)) (.cells #[.bool true, .int .i64 a.pref, .int .i64 a.cost, .int .u8 a.tags] 24)) (.cells #[.bool false, .int .i64 0, .int .i64 0, .int .u8 0] 24)
    simp only [World.size_alloc] at b1 b2
    generalize (((w.alloc (.cells #[.int .u32 o.addr, .int .i64 o.bits] 28)).alloc (.cells #[.bool true, .int .i64 a.pref, .int .i64 a.cost, .int .u8 a.tags] 24)).alloc (.cells #[.bool false, .int .i64 0, .int .i64 0, .int .u8 0] 24)) = W at *
    have hS := (hs.below hB).more hB.size
    have S := Lib.hid hS
    have B0 := Lib.hid b0; have B1 := Lib.hid b1; have B2 := Lib.hid b2; have BB := Lib.hid hB; have HO := Lib.hid hok
    clear b0 b1 b2 hB hS hs hok
    go_loopw [16] (fun i wr => ∃ k : Nat, i = .int .i64 k ∧ k ≤ cs.length ∧ Hid (goL cs o a = goL (cs.drop k) o a) ∧ Below W.heap.size W wr) (fun i _ => cs.length - (intOf i).toNat)
    case atStart => exact ⟨0, rfl, by omega, Lib.hid rfl, Below.refl _ _⟩
    case round =>
      obtain ⟨k, rfl, hk, HG, hb⟩ := hrel
      have B := Lib.hid hb
      have p0 := gb_blk hb B0.out (gb_lt B0.out)
      have p1 := gb_blk hb B1.out (gb_lt B1.out)
      have p2 := gb_blk hb B2.out (gb_lt B2.out)
      by_cases hlt : k < cs.length
      · obtain ⟨c, hc⟩ : ∃ c, cs[k]? = some c := ⟨_, List.getElem?_eq_getElem hlt⟩
        obtain ⟨b, off, rfl, hbb, e0, e1, e2, e3, e4, e5, e6, e7, e8, e9⟩ := ClsAt.get (S.out.below hb) hc
        have P0 := Lib.hid p0; have P1 := Lib.hid p1; have P2 := Lib.hid p2; have C := Lib.hid hc
        obtain ⟨q0, q1⟩ := gb_cells2 p0
        obtain ⟨r0, r1, r2, r3⟩ := gb_cells4 p1
        have s2 := gb_lt p2
        have s1 : w.heap.size + 1 < wr.heap.size := by omega
        have s0 : w.heap.size < wr.heap.size := by omega
        clear p0 p1 p2 hb hc
        have hcok := hcs c (List.mem_of_getElem? C.out)
        have HC := Lib.hid (covers_any c.px o hcok.px ho)
        go_upto_region 6 with fail
        have t0 := gb_new wr (.cells #[.bool c.any, .int .u32 c.px.addr, .int .i64 c.px.bits, .int .u8 c.wi, .int .u8 c.out, .bool c.drop, .int .u8 c.set, .int .u8 c.clr, .int .i64 c.more, .int .i64 c.pref] 35)
        have t1 := gb_old wr (.cells #[.bool c.any, .int .u32 c.px.addr, .int .i64 c.px.bits, .int .u8 c.wi, .int .u8 c.out, .bool c.drop, .int .u8 c.set, .int .u8 c.clr, .int .i64 c.more, .int .i64 c.pref] 35) P1.out
        have t2 := gb_old wr (.cells #[.bool c.any, .int .u32 c.px.addr, .int .i64 c.px.bits, .int .u8 c.wi, .int .u8 c.out, .bool c.drop, .int .u8 c.set, .int .u8 c.clr, .int .i64 c.more, .int .i64 c.pref] 35) P2.out
        have t3 := gb_old wr (.cells #[.bool c.any, .int .u32 c.px.addr, .int .i64 c.px.bits, .int .u8 c.wi, .int .u8 c.out, .bool c.drop, .int .u8 c.set, .int .u8 c.clr, .int .i64 c.more, .int .i64 c.pref] 35) P0.out
        have hbq := gb_trans B.out (gb_alloc (Below.refl wr.heap.size wr) (.cells #[.bool c.any, .int .u32 c.px.addr, .int .i64 c.px.bits, .int .u8 c.wi, .int .u8 c.out, .bool c.drop, .int .u8 c.set, .int .u8 c.clr, .int .i64 c.more, .int .i64 c.pref] 35))
        clear e0 e1 e2 e3 e4 e5 e6 e7 e8 e9 r0 r1 r2 r3 q0 q1
        generalize wr.alloc (.cells #[.bool c.any, .int .u32 c.px.addr, .int .i64 c.px.bits, .int .u8 c.wi, .int .u8 c.out, .bool c.drop, .int .u8 c.set, .int .u8 c.clr, .int .i64 c.more, .int .i64 c.pref] 35) = w1 at *
        have T0 := Lib.hid t0
        obtain ⟨q0, q1⟩ := gb_cells2 t3
        have x0 : w1.cell? ⟨wr.heap.size, 0, none⟩ = some (.bool c.any) := gb_cell t0 0
        have x1 : w1.cell? ⟨wr.heap.size, 1, none⟩ = some (.int .u32 c.px.addr) := gb_cell t0 1
        have x2 : w1.cell? ⟨wr.heap.size, 2, none⟩ = some (.int .i64 c.px.bits) := gb_cell t0 2
        clear t3
        cases hany : c.any with
        | true =>
          rw [hany] at x0
          have HV := Lib.hid hany
          have BQ := Lib.hid hbq
          clear hbq hany
          have hix : cs[k] = c := by have := C.out; rw [List.getElem?_eq_getElem hlt] at this; exact Option.some.inj this
          have z0 := gb_lt t0
          have z1 := gb_lt t1
          have z2 := gb_lt t2
          have hsg : IntKind.u8.signed = false := rfl
          obtain ⟨-, -, -, x3, x4, x5, x6, x7, x8, x9⟩ := in_cells10 t0
          obtain ⟨r0, r1, r2, r3⟩ := gb_cells4 t1
          obtain ⟨y0, y1, y2, y3⟩ := gb_cells4 t2
          have f0 := gb_free t1 0
          have f1 := gb_free t1 1
          have f2 := gb_free t1 2
          have f3 := gb_free t1 3
          have g0 := gb_free t2 0
          have g1 := gb_free t2 1
          have g2 := gb_free t2 2
          have g3 := gb_free t2 3
          clear t0 t1 t2
          have hbase := Lib.hid (gb_trans BB.out BQ.out)
          have T1 := Lib.hid (not_test ha.tags hcok.wi)
          have T2 := Lib.hid (out_test ha.tags hcok.out)
          by_cases hw : a.tags &&& c.wi = c.wi
          rotate_left
          · have k1 := T1.out.trans (decide_eq_true hw)
            have HS := Lib.hid (HG.out.trans (goL_skip hlt (by rw [hix]; simp [matchB, tagsB, hw])))
            clear hw hix
            go_wp2_with fail
            go_roundw
            case rel => exact ⟨k + 1, by go_num, by omega, HS, BQ.out⟩
            case measure => simp [intOf] <;> omega
          have k1 := T1.out.trans (decide_eq_false (show ¬ ¬ a.tags &&& c.wi = c.wi from fun q => q hw))
          by_cases hu : a.tags &&& c.out = 0
          rotate_left
          · have k2 := T2.out.trans (decide_eq_true hu)
            have HS := Lib.hid (HG.out.trans (goL_skip hlt (by rw [hix]; simp [matchB, tagsB, hu])))
            clear hu hw hix
            go_wp2_with fail
            go_roundw
            case rel => exact ⟨k + 1, by go_num, by omega, HS, BQ.out⟩
            case measure => simp [intOf] <;> omega
          have k2 := T2.out.trans (decide_eq_false (show ¬ ¬ a.tags &&& c.out = 0 from fun q => q hu))
          have HS := Lib.hid (HR.out.trans (HG.out.trans (goL_hit hlt (by rw [hix]; simp [matchB, tagsB, hu, hw, forB, HV.out]))))
          rw [hix] at HS
          clear hu hw hix
          cases hd : c.drop with
          | true =>
            have HE : Hid (actL c a = noAtt) := Lib.hid (by simp [actL, hd])
            go_wp2_with fail
            refine bodyPost_ret (v := attv noAtt) (by simp [results, Try.results19, go_sem, attv, noAtt, *]) rfl ⟨by rw [HS.out, HE.out], ?_⟩
            repeat (refine Below.setCell ?_ (by simp <;> omega) _)
            exact hbase.out
          | false =>
            have HT := Lib.hid (do_tags (t := a.tags) (x := c.set) (y := c.clr) ha.tags hcok.set hcok.clr)
            have HE := Lib.hid (actL_cases c a hd ha.cost)
            by_cases hm1 : 15 < c.more
            · by_cases h1 : 1 ≤ c.pref
              · by_cases h2 : c.pref ≤ 255
                · have HQ := Lib.hid (HE.out.1 hm1 |>.1 ⟨h1, h2⟩)
                  go_wp2_with fail
                  rw [HT.out]
                  refine bodyPost_ret (v := .agg #[.bool true, .int .i64 (c.pref), .int .i64 (wrap64 (a.cost + 15)), .int .u8 ((a.tags ||| c.set) &&& (255 - c.clr) &&& 15 : Nat)]) (by simp [results, Try.results19, go_sem, *]) rfl ⟨by rw [HS.out, HQ.out]; rfl, ?_⟩
                  repeat (first | refine Below.setCell ?_ (by simp <;> omega) _ | refine Below.alloc ?_ (by simp <;> omega) _)
                  exact hbase.out
                · have HQ := Lib.hid (HE.out.1 hm1 |>.2 (by omega))
                  have h3 : decide (c.pref ≤ 255) = false := by simpa using h2
                  go_wp2_with fail
                  rw [HT.out]
                  refine bodyPost_ret (v := .agg #[.bool true, .int .i64 (a.pref), .int .i64 (wrap64 (a.cost + 15)), .int .u8 ((a.tags ||| c.set) &&& (255 - c.clr) &&& 15 : Nat)]) (by simp [results, Try.results19, go_sem, *]) rfl ⟨by rw [HS.out, HQ.out]; rfl, ?_⟩
                  repeat (first | refine Below.setCell ?_ (by simp <;> omega) _ | refine Below.alloc ?_ (by simp <;> omega) _)
                  exact hbase.out
              · have HQ := Lib.hid (HE.out.1 hm1 |>.2 (by omega))
                have h3 : decide (1 ≤ c.pref) = false := by simpa using h1
                go_wp2_with fail
                rw [HT.out]
                refine bodyPost_ret (v := .agg #[.bool true, .int .i64 (a.pref), .int .i64 (wrap64 (a.cost + 15)), .int .u8 ((a.tags ||| c.set) &&& (255 - c.clr) &&& 15 : Nat)]) (by simp [results, Try.results19, go_sem, *]) rfl ⟨by rw [HS.out, HQ.out]; rfl, ?_⟩
                repeat (first | refine Below.setCell ?_ (by simp <;> omega) _ | refine Below.alloc ?_ (by simp <;> omega) _)
                exact hbase.out
            · have hm1' : decide (15 < c.more) = false := by simpa using hm1
              by_cases hm2 : 0 < c.more
              · by_cases h1 : 1 ≤ c.pref
                · by_cases h2 : c.pref ≤ 255
                  · have HQ := Lib.hid (HE.out.2.1 hm1 hm2 |>.1 ⟨h1, h2⟩)
                    go_wp2_with fail
                    rw [HT.out]
                    refine bodyPost_ret (v := .agg #[.bool true, .int .i64 (c.pref), .int .i64 (wrap64 (a.cost + c.more)), .int .u8 ((a.tags ||| c.set) &&& (255 - c.clr) &&& 15 : Nat)]) (by simp [results, Try.results19, go_sem, *]) rfl ⟨by rw [HS.out, HQ.out]; rfl, ?_⟩
                    repeat (first | refine Below.setCell ?_ (by simp <;> omega) _ | refine Below.alloc ?_ (by simp <;> omega) _)
                    exact hbase.out
                  · have HQ := Lib.hid (HE.out.2.1 hm1 hm2 |>.2 (by omega))
                    have h3 : decide (c.pref ≤ 255) = false := by simpa using h2
                    go_wp2_with fail
                    rw [HT.out]
                    refine bodyPost_ret (v := .agg #[.bool true, .int .i64 (a.pref), .int .i64 (wrap64 (a.cost + c.more)), .int .u8 ((a.tags ||| c.set) &&& (255 - c.clr) &&& 15 : Nat)]) (by simp [results, Try.results19, go_sem, *]) rfl ⟨by rw [HS.out, HQ.out]; rfl, ?_⟩
                    repeat (first | refine Below.setCell ?_ (by simp <;> omega) _ | refine Below.alloc ?_ (by simp <;> omega) _)
                    exact hbase.out
                · have HQ := Lib.hid (HE.out.2.1 hm1 hm2 |>.2 (by omega))
                  have h3 : decide (1 ≤ c.pref) = false := by simpa using h1
                  go_wp2_with fail
                  rw [HT.out]
                  refine bodyPost_ret (v := .agg #[.bool true, .int .i64 (a.pref), .int .i64 (wrap64 (a.cost + c.more)), .int .u8 ((a.tags ||| c.set) &&& (255 - c.clr) &&& 15 : Nat)]) (by simp [results, Try.results19, go_sem, *]) rfl ⟨by rw [HS.out, HQ.out]; rfl, ?_⟩
                  repeat (first | refine Below.setCell ?_ (by simp <;> omega) _ | refine Below.alloc ?_ (by simp <;> omega) _)
                  exact hbase.out
              · have hm2' : decide (0 < c.more) = false := by simpa using hm2
                by_cases h1 : 1 ≤ c.pref
                · by_cases h2 : c.pref ≤ 255
                  · have HQ := Lib.hid (HE.out.2.2 hm2 |>.1 ⟨h1, h2⟩)
                    go_wp2_with fail
                    rw [HT.out]
                    refine bodyPost_ret (v := .agg #[.bool true, .int .i64 (c.pref), .int .i64 (a.cost), .int .u8 ((a.tags ||| c.set) &&& (255 - c.clr) &&& 15 : Nat)]) (by simp [results, Try.results19, go_sem, *]) rfl ⟨by rw [HS.out, HQ.out]; rfl, ?_⟩
                    repeat (first | refine Below.setCell ?_ (by simp <;> omega) _ | refine Below.alloc ?_ (by simp <;> omega) _)
                    exact hbase.out
                  · have HQ := Lib.hid (HE.out.2.2 hm2 |>.2 (by omega))
                    have h3 : decide (c.pref ≤ 255) = false := by simpa using h2
                    go_wp2_with fail
                    rw [HT.out]
                    refine bodyPost_ret (v := .agg #[.bool true, .int .i64 (a.pref), .int .i64 (a.cost), .int .u8 ((a.tags ||| c.set) &&& (255 - c.clr) &&& 15 : Nat)]) (by simp [results, Try.results19, go_sem, *]) rfl ⟨by rw [HS.out, HQ.out]; rfl, ?_⟩
                    repeat (first | refine Below.setCell ?_ (by simp <;> omega) _ | refine Below.alloc ?_ (by simp <;> omega) _)
                    exact hbase.out
                · have HQ := Lib.hid (HE.out.2.2 hm2 |>.2 (by omega))
                  have h3 : decide (1 ≤ c.pref) = false := by simpa using h1
                  go_wp2_with fail
                  rw [HT.out]
                  refine bodyPost_ret (v := .agg #[.bool true, .int .i64 (a.pref), .int .i64 (a.cost), .int .u8 ((a.tags ||| c.set) &&& (255 - c.clr) &&& 15 : Nat)]) (by simp [results, Try.results19, go_sem, *]) rfl ⟨by rw [HS.out, HQ.out]; rfl, ?_⟩
                  repeat (first | refine Below.setCell ?_ (by simp <;> omega) _ | refine Below.alloc ?_ (by simp <;> omega) _)
                  exact hbase.out
        | false =>
          rw [hany] at x0
          have T1 := Lib.hid t1
          have T2 := Lib.hid t2
          have HBQ := Lib.hid hbq
          clear t0 t1 t2 hbq
          go_wp2_with fail
          refine (HC.out _).mono ?_
          rintro e w2 ⟨rfl, hb1⟩
          have BQ := Lib.hid (gb_trans HBQ.out hb1)
          have t0 := gb_blk hb1 T0.out (gb_lt T0.out)
          have t1 := gb_blk hb1 T1.out (gb_lt T1.out)
          have t2 := gb_blk hb1 T2.out (gb_lt T2.out)
          clear hb1 x0 x1 x2 q0 q1 T1 T2
          cases hcv : coversB c.px o with
          | false =>
            have HS := Lib.hid (HG.out.trans (goL_skip hlt (by have := C.out; rw [List.getElem?_eq_getElem hlt] at this; rw [Option.some.inj this]; simp [matchB, forB, hany, hcv])))
            clear hcv hany t0 t1 t2
            go_wp2_with fail
            go_roundw
            case rel => exact ⟨k + 1, by go_num, by omega, HS, BQ.out⟩
            case measure => simp [intOf] <;> omega
          | true =>
            have HV := Lib.hid hcv
            clear hcv hany
            have hix : cs[k] = c := by have := C.out; rw [List.getElem?_eq_getElem hlt] at this; exact Option.some.inj this
            have z0 := gb_lt t0
            have z1 := gb_lt t1
            have z2 := gb_lt t2
            have hsg : IntKind.u8.signed = false := rfl
            obtain ⟨-, -, -, x3, x4, x5, x6, x7, x8, x9⟩ := in_cells10 t0
            obtain ⟨r0, r1, r2, r3⟩ := gb_cells4 t1
            obtain ⟨y0, y1, y2, y3⟩ := gb_cells4 t2
            have f0 := gb_free t1 0
            have f1 := gb_free t1 1
            have f2 := gb_free t1 2
            have f3 := gb_free t1 3
            have g0 := gb_free t2 0
            have g1 := gb_free t2 1
            have g2 := gb_free t2 2
            have g3 := gb_free t2 3
            clear t0 t1 t2
            have hbase := Lib.hid (gb_trans BB.out BQ.out)
            have T1 := Lib.hid (not_test ha.tags hcok.wi)
            have T2 := Lib.hid (out_test ha.tags hcok.out)
            by_cases hw : a.tags &&& c.wi = c.wi
            rotate_left
            · have k1 := T1.out.trans (decide_eq_true hw)
              have HS := Lib.hid (HG.out.trans (goL_skip hlt (by rw [hix]; simp [matchB, tagsB, hw])))
              clear hw hix
              go_wp2_with fail
              go_roundw
              case rel => exact ⟨k + 1, by go_num, by omega, HS, BQ.out⟩
              case measure => simp [intOf] <;> omega
            have k1 := T1.out.trans (decide_eq_false (show ¬ ¬ a.tags &&& c.wi = c.wi from fun q => q hw))
            by_cases hu : a.tags &&& c.out = 0
            rotate_left
            · have k2 := T2.out.trans (decide_eq_true hu)
              have HS := Lib.hid (HG.out.trans (goL_skip hlt (by rw [hix]; simp [matchB, tagsB, hu])))
              clear hu hw hix
              go_wp2_with fail
              go_roundw
              case rel => exact ⟨k + 1, by go_num, by omega, HS, BQ.out⟩
              case measure => simp [intOf] <;> omega
            have k2 := T2.out.trans (decide_eq_false (show ¬ ¬ a.tags &&& c.out = 0 from fun q => q hu))
            have HS := Lib.hid (HR.out.trans (HG.out.trans (goL_hit hlt (by rw [hix]; simp [matchB, tagsB, hu, hw, forB, HV.out]))))
            rw [hix] at HS
            clear hu hw hix
            cases hd : c.drop with
            | true =>
              have HE : Hid (actL c a = noAtt) := Lib.hid (by simp [actL, hd])
              go_wp2_with fail
              refine bodyPost_ret (v := attv noAtt) (by simp [results, Try.results19, go_sem, attv, noAtt, *]) rfl ⟨by rw [HS.out, HE.out], ?_⟩
              repeat (refine Below.setCell ?_ (by simp <;> omega) _)
              exact hbase.out
            | false =>
              have HT := Lib.hid (do_tags (t := a.tags) (x := c.set) (y := c.clr) ha.tags hcok.set hcok.clr)
              have HE := Lib.hid (actL_cases c a hd ha.cost)
              by_cases hm1 : 15 < c.more
              · by_cases h1 : 1 ≤ c.pref
                · by_cases h2 : c.pref ≤ 255
                  · have HQ := Lib.hid (HE.out.1 hm1 |>.1 ⟨h1, h2⟩)
                    go_wp2_with fail
                    rw [HT.out]
                    refine bodyPost_ret (v := .agg #[.bool true, .int .i64 (c.pref), .int .i64 (wrap64 (a.cost + 15)), .int .u8 ((a.tags ||| c.set) &&& (255 - c.clr) &&& 15 : Nat)]) (by simp [results, Try.results19, go_sem, *]) rfl ⟨by rw [HS.out, HQ.out]; rfl, ?_⟩
                    repeat (first | refine Below.setCell ?_ (by simp <;> omega) _ | refine Below.alloc ?_ (by simp <;> omega) _)
                    exact hbase.out
                  · have HQ := Lib.hid (HE.out.1 hm1 |>.2 (by omega))
                    have h3 : decide (c.pref ≤ 255) = false := by simpa using h2
                    go_wp2_with fail
                    rw [HT.out]
                    refine bodyPost_ret (v := .agg #[.bool true, .int .i64 (a.pref), .int .i64 (wrap64 (a.cost + 15)), .int .u8 ((a.tags ||| c.set) &&& (255 - c.clr) &&& 15 : Nat)]) (by simp [results, Try.results19, go_sem, *]) rfl ⟨by rw [HS.out, HQ.out]; rfl, ?_⟩
                    repeat (first | refine Below.setCell ?_ (by simp <;> omega) _ | refine Below.alloc ?_ (by simp <;> omega) _)
                    exact hbase.out
                · have HQ := Lib.hid (HE.out.1 hm1 |>.2 (by omega))
                  have h3 : decide (1 ≤ c.pref) = false := by simpa using h1
                  go_wp2_with fail
                  rw [HT.out]
                  refine bodyPost_ret (v := .agg #[.bool true, .int .i64 (a.pref), .int .i64 (wrap64 (a.cost + 15)), .int .u8 ((a.tags ||| c.set) &&& (255 - c.clr) &&& 15 : Nat)]) (by simp [results, Try.results19, go_sem, *]) rfl ⟨by rw [HS.out, HQ.out]; rfl, ?_⟩
                  repeat (first | refine Below.setCell ?_ (by simp <;> omega) _ | refine Below.alloc ?_ (by simp <;> omega) _)
                  exact hbase.out
              · have hm1' : decide (15 < c.more) = false := by simpa using hm1
                by_cases hm2 : 0 < c.more
                · by_cases h1 : 1 ≤ c.pref
                  · by_cases h2 : c.pref ≤ 255
                    · have HQ := Lib.hid (HE.out.2.1 hm1 hm2 |>.1 ⟨h1, h2⟩)
                      go_wp2_with fail
                      rw [HT.out]
                      refine bodyPost_ret (v := .agg #[.bool true, .int .i64 (c.pref), .int .i64 (wrap64 (a.cost + c.more)), .int .u8 ((a.tags ||| c.set) &&& (255 - c.clr) &&& 15 : Nat)]) (by simp [results, Try.results19, go_sem, *]) rfl ⟨by rw [HS.out, HQ.out]; rfl, ?_⟩
                      repeat (first | refine Below.setCell ?_ (by simp <;> omega) _ | refine Below.alloc ?_ (by simp <;> omega) _)
                      exact hbase.out
                    · have HQ := Lib.hid (HE.out.2.1 hm1 hm2 |>.2 (by omega))
                      have h3 : decide (c.pref ≤ 255) = false := by simpa using h2
                      go_wp2_with fail
                      rw [HT.out]
                      refine bodyPost_ret (v := .agg #[.bool true, .int .i64 (a.pref), .int .i64 (wrap64 (a.cost + c.more)), .int .u8 ((a.tags ||| c.set) &&& (255 - c.clr) &&& 15 : Nat)]) (by simp [results, Try.results19, go_sem, *]) rfl ⟨by rw [HS.out, HQ.out]; rfl, ?_⟩
                      repeat (first | refine Below.setCell ?_ (by simp <;> omega) _ | refine Below.alloc ?_ (by simp <;> omega) _)
                      exact hbase.out
                  · have HQ := Lib.hid (HE.out.2.1 hm1 hm2 |>.2 (by omega))
                    have h3 : decide (1 ≤ c.pref) = false := by simpa using h1
                    go_wp2_with fail
                    rw [HT.out]
                    refine bodyPost_ret (v := .agg #[.bool true, .int .i64 (a.pref), .int .i64 (wrap64 (a.cost + c.more)), .int .u8 ((a.tags ||| c.set) &&& (255 - c.clr) &&& 15 : Nat)]) (by simp [results, Try.results19, go_sem, *]) rfl ⟨by rw [HS.out, HQ.out]; rfl, ?_⟩
                    repeat (first | refine Below.setCell ?_ (by simp <;> omega) _ | refine Below.alloc ?_ (by simp <;> omega) _)
                    exact hbase.out
                · have hm2' : decide (0 < c.more) = false := by simpa using hm2
                  by_cases h1 : 1 ≤ c.pref
                  · by_cases h2 : c.pref ≤ 255
                    · have HQ := Lib.hid (HE.out.2.2 hm2 |>.1 ⟨h1, h2⟩)
                      go_wp2_with fail
                      rw [HT.out]
                      refine bodyPost_ret (v := .agg #[.bool true, .int .i64 (c.pref), .int .i64 (a.cost), .int .u8 ((a.tags ||| c.set) &&& (255 - c.clr) &&& 15 : Nat)]) (by simp [results, Try.results19, go_sem, *]) rfl ⟨by rw [HS.out, HQ.out]; rfl, ?_⟩
                      repeat (first | refine Below.setCell ?_ (by simp <;> omega) _ | refine Below.alloc ?_ (by simp <;> omega) _)
                      exact hbase.out
                    · have HQ := Lib.hid (HE.out.2.2 hm2 |>.2 (by omega))
                      have h3 : decide (c.pref ≤ 255) = false := by simpa using h2
                      go_wp2_with fail
                      rw [HT.out]
                      refine bodyPost_ret (v := .agg #[.bool true, .int .i64 (a.pref), .int .i64 (a.cost), .int .u8 ((a.tags ||| c.set) &&& (255 - c.clr) &&& 15 : Nat)]) (by simp [results, Try.results19, go_sem, *]) rfl ⟨by rw [HS.out, HQ.out]; rfl, ?_⟩
                      repeat (first | refine Below.setCell ?_ (by simp <;> omega) _ | refine Below.alloc ?_ (by simp <;> omega) _)
                      exact hbase.out
                  · have HQ := Lib.hid (HE.out.2.2 hm2 |>.2 (by omega))
                    have h3 : decide (1 ≤ c.pref) = false := by simpa using h1
                    go_wp2_with fail
                    rw [HT.out]
                    refine bodyPost_ret (v := .agg #[.bool true, .int .i64 (a.pref), .int .i64 (a.cost), .int .u8 ((a.tags ||| c.set) &&& (255 - c.clr) &&& 15 : Nat)]) (by simp [results, Try.results19, go_sem, *]) rfl ⟨by rw [HS.out, HQ.out]; rfl, ?_⟩
                    repeat (first | refine Below.setCell ?_ (by simp <;> omega) _ | refine Below.alloc ?_ (by simp <;> omega) _)
                    exact hbase.out
      · have hk' : k = cs.length := by omega
        subst hk'
        have HS : Hid (doL cs o a = a) := Lib.hid (by rw [HR.out, HG.out]; simp [goL])
        have hbase := Lib.hid (gb_trans BB.out B.out)
        have z1 := gb_lt p1
        have z2 := gb_lt p2
        obtain ⟨r0, r1, r2, r3⟩ := gb_cells4 p1
        obtain ⟨y0, y1, y2, y3⟩ := gb_cells4 p2
        have g0 := gb_free p2 0
        have g1 := gb_free p2 1
        have g2 := gb_free p2 2
        have g3 := gb_free p2 3
        have HA : Hid (attv a = .agg #[.bool true, .int .i64 a.pref, .int .i64 a.cost, .int .u8 a.tags]) := Lib.hid (by rw [← HO.out]; rfl)
        clear p0 p1 p2 hb
        go_wp2_with fail
        refine bodyPost_ret (v := .agg #[.bool true, .int .i64 a.pref, .int .i64 a.cost, .int .u8 a.tags]) (by simp [results, Try.results19, go_sem, *]) rfl ⟨by rw [HS.out, HA.out], ?_⟩
        repeat (refine Below.setCell ?_ (by simp <;> omega) _)
        exact hbase.out
end Go.Proofs.Ytbbgiockmblamaa
