import Derived.Test.YtbbgiockmblamaaEq
import Derived.Test.YtbbgiockmblamaaRdt
set_option linter.unusedVariables false
namespace Go.Proofs.Ytbbgiockmblamaa
open Go.RowKit Mq

theorem Sli.two {α : Type} {enc : α → List Value} {size B b : Nat} {w : World} {u v : α} {t : TypeId} (h : w.heap[b]? = some (.cells ((enc u).toArray ++ (enc v).toArray) t (0, 0))) (hb : b < B) (hs : ∀ a, (enc a).length = size) : Sli enc size w B (some ⟨b, 0, none⟩) [u, v] :=
  fun _ => ⟨b, 0, rfl, hb, fun k x hk j hj => by
    rw [gb_cell h]
    match k, hk with
    | 0, hk =>
      simp at hk; subst hk
      simp only [List.append_toArray, List.getElem?_toArray, Nat.zero_mul, Nat.zero_add]
      rw [List.getElem?_append_left (by rw [hs]; exact hj)]
    | 1, hk =>
      simp at hk; subst hk
      simp only [List.append_toArray, List.getElem?_toArray, Nat.one_mul, Nat.zero_add]
      rw [List.getElem?_append_right (by rw [hs]; omega), hs]
      congr 1; omega
    | k + 2, hk => simp at hk⟩
theorem andNot_test {t x : Nat} (ht : t < 256) (hx : x < 256) : (bits .andNot .u8 (x : Int) (t : Int) == 0) = decide (t &&& x = x) := by
  rw [u8_andNot_nat _ _ hx ht, eq0_dec, decide_eq_decide, Nat.and_comm x, with_iff ht hx]
theorem and_test {t x : Nat} (ht : t < 256) (hx : x < 256) : (bits .and .u8 (x : Int) (t : Int) == 0) = decide (t &&& x = 0) := by
  rw [u8_and_nat _ _ hx ht, eq0_dec, Nat.and_comm]

set_option maxRecDepth 100000 in
set_option maxHeartbeats 4000000 in
theorem walk_ClauseMatches (c : Cl) (r : Rul) (n t : Nat) (w : World) (hc : c.Ok) (hr : r.Ok) (hn : n < 256) (ht : t < 256) :
    Calls Try.prog 4 #[.agg (clc c).toArray, .agg (rulc r).toArray, .int .u8 n, .int .u8 t] w fun e w' => e = .returned (.bool true) ∧ Below w.heap.size w w' := by
  unfold clc rulc
  go_enter Try.func4, Try.ntmps4
  go_wp2_with fail
  have b4 := gb_old _ (.cells #[.int .u8 r.t, .int .u8 r.w, .int .u8 r.o, .int .u8 r.d, .int .u8 r.m, .int .u8 r.p] 37) (gb_new w (.cells #[.bool c.any, .int .u32 c.px.addr, .int .i64 c.px.bits, .int .u8 c.wi, .int .u8 c.out, .bool c.drop, .int .u8 c.set, .int .u8 c.clr, .int .i64 c.more, .int .i64 c.pref] 35))
  have b5 := gb_new (w.alloc (.cells #[.bool c.any, .int .u32 c.px.addr, .int .i64 c.px.bits, .int .u8 c.wi, .int .u8 c.out, .bool c.drop, .int .u8 c.set, .int .u8 c.clr, .int .i64 c.more, .int .i64 c.pref] 35)) (.cells #[.int .u8 r.t, .int .u8 r.w, .int .u8 r.o, .int .u8 r.d, .int .u8 r.m, .int .u8 r.p] 37)
  have hB := gb_alloc (gb_alloc (Below.refl w.heap.size w) (.cells #[.bool c.any, .int .u32 c.px.addr, .int .i64 c.px.bits, .int .u8 c.wi, .int .u8 c.out, .bool c.drop, .int .u8 c.set, .int .u8 c.clr, .int .i64 c.more, .int .i64 c.pref] 35)) (.cells #[.int .u8 r.t, .int .u8 r.w, .int .u8 r.o, .int .u8 r.d, .int .u8 r.m, .int .u8 r.p] 37)
  simp only [World.size_alloc] at b5
  generalize (w.alloc (.cells #[.bool c.any, .int .u32 c.px.addr, .int .i64 c.px.bits, .int .u8 c.wi, .int .u8 c.out, .bool c.drop, .int .u8 c.set, .int .u8 c.clr, .int .i64 c.more, .int .i64 c.pref] 35)).alloc (.cells #[.int .u8 r.t, .int .u8 r.w, .int .u8 r.o, .int .u8 r.d, .int .u8 r.m, .int .u8 r.p] 37) = W0 at *
  refine (awake11 W0).mono ?_
  rintro e w1 ⟨rfl, hb⟩
  have B41 := Lib.hid (gb_blk hb b4 (gb_lt b4)); have B51 := Lib.hid (gb_blk hb b5 (gb_lt b5)); have B1 := Lib.hid (gb_trans hB hb)
  clear b4 b5 hB hb
  go_wp2_with fail
  refine (make_any n hn w1).mono ?_
  rintro e w2 ⟨rfl, hb⟩
  have HPO := Lib.hid (mkP_ok hn)
  generalize mkP n = o at *
  unfold pfxv
  have B42 := Lib.hid (gb_blk hb B41.out (gb_lt B41.out)); have B52 := Lib.hid (gb_blk hb B51.out (gb_lt B51.out)); have B2 := Lib.hid (gb_trans B1.out hb)
  clear hb B41 B51
  go_upto_region 4 with fail
  have b4 := gb_old _ (.cells #[.int .u32 o.addr, .int .i64 o.bits] 28) B42.out
  have b5 := gb_old _ (.cells #[.int .u32 o.addr, .int .i64 o.bits] 28) B52.out
  have b9 := gb_new w2 (.cells #[.int .u32 o.addr, .int .i64 o.bits] 28)
  have hB := gb_trans B2.out (gb_alloc (Below.refl w2.heap.size w2) (.cells #[.int .u32 o.addr, .int .i64 o.bits] 28))
  generalize w2.alloc (.cells #[.int .u32 o.addr, .int .i64 o.bits] 28) = W at *
  have hS : ∀ w', Below W.heap.size W w' → w'.cell? ⟨w.heap.size, 0, none⟩ = some (.bool c.any) ∧ w'.cell? ⟨w.heap.size, 1, none⟩ = some (.int .u32 c.px.addr) ∧ w'.cell? ⟨w.heap.size, 2, none⟩ = some (.int .i64 c.px.bits) ∧ w'.cell? ⟨w.heap.size, 3, none⟩ = some (.int .u8 c.wi) ∧ w'.cell? ⟨w.heap.size, 4, none⟩ = some (.int .u8 c.out) ∧ w'.cell? ⟨w.heap.size, 5, none⟩ = some (.bool c.drop) ∧ w'.cell? ⟨w.heap.size, 6, none⟩ = some (.int .u8 c.set) ∧ w'.cell? ⟨w.heap.size, 7, none⟩ = some (.int .u8 c.clr) ∧ w'.cell? ⟨w.heap.size, 8, none⟩ = some (.int .i64 c.more) ∧ w'.cell? ⟨w.heap.size, 9, none⟩ = some (.int .i64 c.pref) ∧ w'.cell? ⟨w.heap.size + 1, 0, none⟩ = some (.int .u8 r.t) ∧ w'.cell? ⟨w.heap.size + 1, 1, none⟩ = some (.int .u8 r.w) ∧ w'.cell? ⟨w.heap.size + 1, 2, none⟩ = some (.int .u8 r.o) ∧ w'.cell? ⟨w.heap.size + 1, 3, none⟩ = some (.int .u8 r.d) ∧ w'.cell? ⟨w.heap.size + 1, 4, none⟩ = some (.int .u8 r.m) ∧ w'.cell? ⟨w.heap.size + 1, 5, none⟩ = some (.int .u8 r.p) := fun w' hb => by
    have h4 := gb_blk hb b4 (gb_lt b4)
    have h5 := gb_blk hb b5 (gb_lt b5)
    exact ⟨gb_cell h4 0, gb_cell h4 1, gb_cell h4 2, gb_cell h4 3, gb_cell h4 4, gb_cell h4 5, gb_cell h4 6, gb_cell h4 7, gb_cell h4 8, gb_cell h4 9, gb_cell h5 0, gb_cell h5 1, gb_cell h5 2, gb_cell h5 3, gb_cell h5 4, gb_cell h5 5⟩
  have HS := Lib.hid hS
  have B9 := Lib.hid b9
  have B3 := Lib.hid hB
  have HR := Lib.hid (rule_any r hr)
  have RO := Lib.hid (ruleCl_ok hr)
  generalize ruleCl r = d at *
  clear hS b4 b5 b9 hB
  go_region_held3 (fun w' => w'.cell? ⟨w.heap.size, 0, none⟩ = some (.bool c.any) ∧ w'.cell? ⟨w.heap.size, 1, none⟩ = some (.int .u32 c.px.addr) ∧ w'.cell? ⟨w.heap.size, 2, none⟩ = some (.int .i64 c.px.bits) ∧ w'.cell? ⟨w.heap.size, 3, none⟩ = some (.int .u8 c.wi) ∧ w'.cell? ⟨w.heap.size, 4, none⟩ = some (.int .u8 c.out) ∧ w'.cell? ⟨w.heap.size, 5, none⟩ = some (.bool c.drop) ∧ w'.cell? ⟨w.heap.size, 6, none⟩ = some (.int .u8 c.set) ∧ w'.cell? ⟨w.heap.size, 7, none⟩ = some (.int .u8 c.clr) ∧ w'.cell? ⟨w.heap.size, 8, none⟩ = some (.int .i64 c.more) ∧ w'.cell? ⟨w.heap.size, 9, none⟩ = some (.int .i64 c.pref) ∧ w'.cell? ⟨w.heap.size + 1, 0, none⟩ = some (.int .u8 r.t) ∧ w'.cell? ⟨w.heap.size + 1, 1, none⟩ = some (.int .u8 r.w) ∧ w'.cell? ⟨w.heap.size + 1, 2, none⟩ = some (.int .u8 r.o) ∧ w'.cell? ⟨w.heap.size + 1, 3, none⟩ = some (.int .u8 r.d) ∧ w'.cell? ⟨w.heap.size + 1, 4, none⟩ = some (.int .u8 r.m) ∧ w'.cell? ⟨w.heap.size + 1, 5, none⟩ = some (.int .u8 r.p))
    (first | exact HS.out _ ((Below.refl _ _).drew) | exact HS.out _ B8.out | go_keep)
    (first | (go_at_call 20; refine (HR.out _).mono ?_; rintro e w8 ⟨rfl, hb8⟩; unfold clv; have B8 := Lib.hid (gb_trans ((Below.refl W.heap.size W).drew) hb8); clear hb8))
  go_wp2_with fail
  have hsl := gb_new w8 (.cells ((clc c).toArray ++ (clc d).toArray) 35)
  have hpb := gb_old _ (.cells ((clc c).toArray ++ (clc d).toArray) 35) (gb_blk B8.out B9.out (gb_lt B9.out))
  have hB := gb_trans (gb_trans B3.out B8.out) (gb_alloc (Below.refl w8.heap.size w8) (.cells ((clc c).toArray ++ (clc d).toArray) 35))
  have hcl : ClsAt (w8.alloc (.cells ((clc c).toArray ++ (clc d).toArray) 35)) (w8.alloc (.cells ((clc c).toArray ++ (clc d).toArray) 35)).heap.size (some ⟨w8.heap.size, 0, none⟩) [c, d] := Sli.two hsl (gb_lt hsl) (fun _ => rfl)
  simp only [clc, List.append_toArray, List.cons_append, List.nil_append] at hsl hpb hB hcl
  generalize hWl : w8.alloc (.cells #[.bool c.any, .int .u32 c.px.addr, .int .i64 c.px.bits, .int .u8 c.wi, .int .u8 c.out, .bool c.drop, .int .u8 c.set, .int .u8 c.clr, .int .i64 c.more, .int .i64 c.pref, .bool d.any, .int .u32 d.px.addr, .int .i64 d.px.bits, .int .u8 d.wi, .int .u8 d.out, .bool d.drop, .int .u8 d.set, .int .u8 d.clr, .int .i64 d.more, .int .i64 d.pref] 35) = Wl at *
  have SL := Lib.hid hcl
  have PB := Lib.hid hpb
  have BL := Lib.hid hB
  clear hWl hcl hpb hB hsl
  go_loopw [22] (fun i wr => ∃ k : Nat, i = .int .i64 k ∧ k ≤ 2 ∧ Below Wl.heap.size Wl wr) (fun i _ => 2 - (intOf i).toNat)
  case atStart => exact ⟨0, rfl, by omega, Below.refl _ _⟩
  case round =>
    obtain ⟨k, rfl, hk, hb⟩ := hrel
    have B := Lib.hid hb
    by_cases hlt : k < 2
    · obtain ⟨x, hx⟩ : ∃ x, [c, d][k]? = some x := ⟨_, List.getElem?_eq_getElem (by simpa using hlt)⟩
      have hxok : x.Ok := by
        have := List.mem_of_getElem? hx
        simp at this
        rcases this with rfl | rfl
        · exact hc
        · exact RO.out
      obtain ⟨b, off, hbo, hbb, e0, e1, e2, e3, e4, e5, e6, e7, e8, e9⟩ := ClsAt.get (SL.out.below hb) hx
      injection hbo with hbo
      injection hbo with hbo1 hbo2
      subst hbo1; subst hbo2
      simp only [Nat.zero_add] at e0 e1 e2 e3 e4 e5 e6 e7 e8 e9
      have hpw := gb_blk hb PB.out (gb_lt PB.out)
      have PW := Lib.hid hpw
      have spw := gb_lt hpw
      clear hx hb hpw hbb
      go_upto_region 7 with fail
      have t0 := gb_new wr (.cells #[.bool x.any, .int .u32 x.px.addr, .int .i64 x.px.bits, .int .u8 x.wi, .int .u8 x.out, .bool x.drop, .int .u8 x.set, .int .u8 x.clr, .int .i64 x.more, .int .i64 x.pref] 35)
      have t3 := gb_old wr (.cells #[.bool x.any, .int .u32 x.px.addr, .int .i64 x.px.bits, .int .u8 x.wi, .int .u8 x.out, .bool x.drop, .int .u8 x.set, .int .u8 x.clr, .int .i64 x.more, .int .i64 x.pref] 35) PW.out
      have hbq := gb_trans B.out (gb_alloc (Below.refl wr.heap.size wr) (.cells #[.bool x.any, .int .u32 x.px.addr, .int .i64 x.px.bits, .int .u8 x.wi, .int .u8 x.out, .bool x.drop, .int .u8 x.set, .int .u8 x.clr, .int .i64 x.more, .int .i64 x.pref] 35))
      clear e0 e1 e2 e3 e4 e5 e6 e7 e8 e9
      generalize wr.alloc (.cells #[.bool x.any, .int .u32 x.px.addr, .int .i64 x.px.bits, .int .u8 x.wi, .int .u8 x.out, .bool x.drop, .int .u8 x.set, .int .u8 x.clr, .int .i64 x.more, .int .i64 x.pref] 35) = wu at *
      have T0 := Lib.hid t0
      have T3 := Lib.hid t3
      obtain ⟨q0, q1⟩ := gb_cells2 t3
      obtain ⟨x0, x1, x2, x3, x4, x5, x6, x7, x8, x9⟩ := in_cells10 t0
      have HBQ := Lib.hid hbq
      clear t0 t3 hbq
      have K1 := Lib.hid (andNot_test (t := t) (x := x.wi) ht hxok.wi)
      have K2 := Lib.hid (and_test (t := t) (x := x.out) ht hxok.out)
      cases hany : x.any with
      | true =>
        rw [hany] at x0
        have HV := Lib.hid hany
        have cm := matches_any x hxok o HPO.out t ht
        unfold clv pfxv at cm
        rw [hany] at cm
        have CM := Lib.hid cm
        clear hany cm
        by_cases g1 : t &&& x.wi = x.wi
        rotate_left
        · have k1 := K1.out.trans (decide_eq_false g1)
          have HMV : Hid (matchB x o t = false) := Lib.hid (by simp [matchB, tagsB, g1])
          have BB := HBQ
          go_wp2_with fail
          ((with_reducible refine (CM.out _).mono ?_))
          rintro e w9 ⟨rfl, hb⟩
          rw [HMV.out]
          have BX := Lib.hid (gb_trans BB.out hb)
          clear hb
          go_wp2_with fail
          go_roundw
          case rel => exact ⟨k + 1, by go_num, by omega, BX.out⟩
          case measure => simp [intOf] <;> omega
        have k1 := K1.out.trans (decide_eq_true g1)
        by_cases g2 : t &&& x.out = 0
        rotate_left
        · have k2 := K2.out.trans (decide_eq_false g2)
          have HMV : Hid (matchB x o t = false) := Lib.hid (by simp [matchB, tagsB, g2])
          clear g1 g2
          have BB := HBQ
          go_wp2_with fail
          ((with_reducible refine (CM.out _).mono ?_))
          rintro e w9 ⟨rfl, hb⟩
          rw [HMV.out]
          have BX := Lib.hid (gb_trans BB.out hb)
          clear hb
          go_wp2_with fail
          go_roundw
          case rel => exact ⟨k + 1, by go_num, by omega, BX.out⟩
          case measure => simp [intOf] <;> omega
        have k2 := K2.out.trans (decide_eq_true g2)
        have HMV : Hid (matchB x o t = true) := Lib.hid (by simp [matchB, tagsB, g1, g2, forB, HV.out])
        clear g1 g2
        have BB := HBQ
        go_wp2_with fail
        ((with_reducible refine (CM.out _).mono ?_))
        rintro e w9 ⟨rfl, hb⟩
        rw [HMV.out]
        have BX := Lib.hid (gb_trans BB.out hb)
        clear hb
        go_wp2_with fail
        go_roundw
        case rel => exact ⟨k + 1, by go_num, by omega, BX.out⟩
        case measure => simp [intOf] <;> omega
      | false =>
        rw [hany] at x0
        have HC := Lib.hid (covers_any x.px o hxok.px HPO.out)
        have HN := Lib.hid hany
        have cm := matches_any x hxok o HPO.out t ht
        unfold clv pfxv at cm
        rw [hany] at cm
        have CM := Lib.hid cm
        clear hany cm
        go_wp2_with fail
        refine (HC.out _).mono ?_
        rintro e w10 ⟨rfl, hb⟩
        have BQ2 := Lib.hid (gb_trans HBQ.out hb)
        have t0 := gb_blk hb T0.out (gb_lt T0.out)
        have t3 := gb_blk hb T3.out (gb_lt T3.out)
        clear q0 q1 x0 x1 x2 x3 x4 x5 x6 x7 x8 x9
        obtain ⟨q0, q1⟩ := gb_cells2 t3
        obtain ⟨x0, x1, x2, x3, x4, x5, x6, x7, x8, x9⟩ := in_cells10 t0
        rw [HN.out] at x0
        clear t0 t3 hb
        cases hcv : coversB x.px o with
        | false =>
          have HMV : Hid (matchB x o t = false) := Lib.hid (by simp [matchB, forB, HN.out, hcv])
          clear hcv
          have BB := BQ2
          go_wp2_with fail
          ((with_reducible refine (CM.out _).mono ?_))
          rintro e w9 ⟨rfl, hb⟩
          rw [HMV.out]
          have BX := Lib.hid (gb_trans BB.out hb)
          clear hb
          go_wp2_with fail
          go_roundw
          case rel => exact ⟨k + 1, by go_num, by omega, BX.out⟩
          case measure => simp [intOf] <;> omega
        | true =>
          have HV := Lib.hid hcv
          clear hcv
          by_cases g1 : t &&& x.wi = x.wi
          rotate_left
          · have k1 := K1.out.trans (decide_eq_false g1)
            have HMV : Hid (matchB x o t = false) := Lib.hid (by simp [matchB, tagsB, g1])
            have BB := BQ2
            go_wp2_with fail
            ((with_reducible refine (CM.out _).mono ?_))
            rintro e w9 ⟨rfl, hb⟩
            rw [HMV.out]
            have BX := Lib.hid (gb_trans BB.out hb)
            clear hb
            go_wp2_with fail
            go_roundw
            case rel => exact ⟨k + 1, by go_num, by omega, BX.out⟩
            case measure => simp [intOf] <;> omega
          have k1 := K1.out.trans (decide_eq_true g1)
          by_cases g2 : t &&& x.out = 0
          rotate_left
          · have k2 := K2.out.trans (decide_eq_false g2)
            have HMV : Hid (matchB x o t = false) := Lib.hid (by simp [matchB, tagsB, g2])
            clear g1 g2
            have BB := BQ2
            go_wp2_with fail
            ((with_reducible refine (CM.out _).mono ?_))
            rintro e w9 ⟨rfl, hb⟩
            rw [HMV.out]
            have BX := Lib.hid (gb_trans BB.out hb)
            clear hb
            go_wp2_with fail
            go_roundw
            case rel => exact ⟨k + 1, by go_num, by omega, BX.out⟩
            case measure => simp [intOf] <;> omega
          have k2 := K2.out.trans (decide_eq_true g2)
          have HMV : Hid (matchB x o t = true) := Lib.hid (by simp [matchB, tagsB, g1, g2, forB, HV.out])
          clear g1 g2
          have BB := BQ2
          go_wp2_with fail
          ((with_reducible refine (CM.out _).mono ?_))
          rintro e w9 ⟨rfl, hb⟩
          rw [HMV.out]
          have BX := Lib.hid (gb_trans BB.out hb)
          clear hb
          go_wp2_with fail
          go_roundw
          case rel => exact ⟨k + 1, by go_num, by omega, BX.out⟩
          case measure => simp [intOf] <;> omega
    · have hk' : k = 2 := by omega
      subst hk'
      go_wp2_with fail
      go_ret
      exact ⟨rfl, gb_trans BL.out B.out⟩
end Go.Proofs.Ytbbgiockmblamaa
