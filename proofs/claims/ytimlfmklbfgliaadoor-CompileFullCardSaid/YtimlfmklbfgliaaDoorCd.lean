import Derived.Test.YtimlfmklbfgliaaDoorCx
set_option linter.unusedVariables false
namespace Go.Proofs.YtimlfmklbfgliaaDoor
open Go.RowKit Mq
attribute [local go_sem high] max2_ii min2_ii

/-- An element's cells, and the address. -/
theorem ClsAt.get {w : World} {B : Nat} {A : Option Addr} {cs : List Cl} (h : ClsAt w B A cs) {k : Nat} {c : Cl} (hk : cs[k]? = some c) : ∃ b off, A = some ⟨b, off, none⟩ ∧ b < B ∧
    w.cell? ⟨b, off + k * 10, none⟩ = some (.bool c.any) ∧ w.cell? ⟨b, off + k * 10 + 1, none⟩ = some (.int .u32 c.px.addr) ∧ w.cell? ⟨b, off + k * 10 + 2, none⟩ = some (.int .i64 c.px.bits) ∧ w.cell? ⟨b, off + k * 10 + 3, none⟩ = some (.int .u8 c.wi) ∧ w.cell? ⟨b, off + k * 10 + 4, none⟩ = some (.int .u8 c.out) ∧
    w.cell? ⟨b, off + k * 10 + 5, none⟩ = some (.bool c.drop) ∧ w.cell? ⟨b, off + k * 10 + 6, none⟩ = some (.int .u8 c.set) ∧ w.cell? ⟨b, off + k * 10 + 7, none⟩ = some (.int .u8 c.clr) ∧ w.cell? ⟨b, off + k * 10 + 8, none⟩ = some (.int .i64 c.more) ∧ w.cell? ⟨b, off + k * 10 + 9, none⟩ = some (.int .i64 c.pref) := by
  obtain ⟨b, off, hA, hB, hc⟩ := h (by have := (List.getElem?_eq_some_iff.1 hk).1; omega)
  have := hc k c hk
  exact ⟨b, off, hA, hB, this 0 (by omega), this 1 (by omega), this 2 (by omega), this 3 (by omega), this 4 (by omega), this 5 (by omega), this 6 (by omega), this 7 (by omega), this 8 (by omega), this 9 (by omega)⟩

theorem act_tags {t x y : Nat} (ht : t < 256) (hx : x < 256) (hy : y < 256) : bits .and .u8 (bits .andNot .u8 (bits .or .u8 (t : Int) (x : Int)) (y : Int)) 15 = (((t ||| x) &&& (255 - y) &&& 15 : Nat) : Int) := by
  have h1 := or_lt8 ht hx
  rw [u8_or_nat _ _ ht hx, u8_andNot_nat _ _ h1 hy]
  exact u8_and_nat _ 15 (and_lt h1) (by omega)
theorem w64_wrap (x : Int) : wrap64 x = w64 x := by unfold wrap64 w64; rfl
def DoPost (w : World) (r : Att) (e : Ending) (w' : World) : Prop := e = .returned (attv r) ∧ Below w.heap.size w w'

set_option maxRecDepth 100000 in
set_option maxHeartbeats 1000000 in
theorem do_any (A : Option Addr) (cap : Nat) (cs : List Cl) (hcs : ∀ c ∈ cs, c.Ok) (o : Pfx) (ho : o.Ok) (a : Att) (ha : a.Ok) (w : World) (hs : ClsAt w w.heap.size A cs) (hn : cs.length ≤ 9223372036854775807) :
    Calls Tryd.prog 23 #[.slice A cs.length cap, pfxv o, attv a] w (DoPost w (doL cs o a)) := by
  unfold pfxv attv
  cases hok : a.ok with
  | false =>
    have HR : Hid (doL cs o a = noAtt) := Lib.hid (by simp [doL, hok])
    go_enter Tryd.func23, Tryd.ntmps23
    go_wp2_with fail
    refine bodyPost_ret (v := attv noAtt) (by simp [results, Tryd.results23, go_sem, attv, noAtt]) rfl ⟨by rw [HR.out], gb_alloc (gb_alloc (gb_alloc (Below.refl _ _) _) _) _⟩
  | true =>
    have HR : Hid (doL cs o a = goL cs o a) := Lib.hid (by simp [doL, hok])
    go_enter Tryd.func23, Tryd.ntmps23
    go_wp2_with fail
    have b0 := gb_old _ (.cells #[.bool false, .int .i64 0, .int .i64 0, .int .u8 0] 49) (gb_old _ (.cells #[.bool true, .int .i64 a.pref, .int .i64 a.cost, .int .u8 a.tags] 49) (gb_new w (.cells #[.int .u32 o.addr, .int .i64 o.bits] 64)))
    have b1 := gb_old _ (.cells #[.bool false, .int .i64 0, .int .i64 0, .int .u8 0] 49) (gb_new (w.alloc (.cells #[.int .u32 o.addr, .int .i64 o.bits] 64)) (.cells #[.bool true, .int .i64 a.pref, .int .i64 a.cost, .int .u8 a.tags] 49))
    have b2 := gb_new ((w.alloc (.cells #[.int .u32 o.addr, .int .i64 o.bits] 64)).alloc (.cells #[.bool true, .int .i64 a.pref, .int .i64 a.cost, .int .u8 a.tags] 49)) (.cells #[.bool false, .int .i64 0, .int .i64 0, .int .u8 0] 49)
    have hB := gb_alloc (gb_alloc (gb_alloc (Below.refl w.heap.size w) (.cells #[.int .u32 o.addr, .int .i64 o.bits] 64)) (.cells #[.bool true, .int .i64 a.pref, .int .i64 a.cost, .int .u8 a.tags] 49)) (.cells #[.bool false, .int .i64 0, .int .i64 0, .int .u8 0] 49)
    simp only [World.size_alloc] at b1 b2
    generalize (((w.alloc (.cells #[.int .u32 o.addr, .int .i64 o.bits] 64)).alloc (.cells #[.bool true, .int .i64 a.pref, .int .i64 a.cost, .int .u8 a.tags] 49)).alloc (.cells #[.bool false, .int .i64 0, .int .i64 0, .int .u8 0] 49)) = W at *
    have hS := (hs.below hB).more hB.size
    have S := Lib.hid hS
    have B0 := Lib.hid b0; have B1 := Lib.hid b1; have B2 := Lib.hid b2; have BB := Lib.hid hB; have HO := Lib.hid hok
    clear b0 b1 b2 hB hS hs hok
    go_loopw [15] (fun i wr => ∃ k : Nat, i = .int .i64 k ∧ k ≤ cs.length ∧ Hid (goL cs o a = goL (cs.drop k) o a) ∧ Below W.heap.size W wr) (fun i _ => cs.length - (intOf i).toNat)
    case atStart => exact ⟨0, rfl, by omega, Lib.hid rfl, Below.refl _ _⟩
    case round =>
      obtain ⟨k, rfl, hk, HG, hb⟩ := hrel
      have B := Lib.hid hb
      have p0 := gb_blk hb B0.out (gb_lt B0.out)
      have p1 := gb_blk hb B1.out (gb_lt B1.out)
      have p2 := gb_blk hb B2.out (gb_lt B2.out)
      by_cases hlt : k < cs.length
      · obtain ⟨c, hc⟩ : ∃ c, cs[k]? = some c := ⟨_, List.getElem?_eq_getElem hlt⟩
        obtain ⟨b, off, rfl, hbb, e0, e1, e2, e3, e4, e5, e6, e7, e8, e9⟩ := ClsAt.get (S.out.below hb) hc
        have P0 := Lib.hid p0; have P1 := Lib.hid p1; have P2 := Lib.hid p2; have C := Lib.hid hc
        obtain ⟨q0, q1⟩ := gb_cells2 p0
        obtain ⟨r0, r1, r2, r3⟩ := gb_cells4 p1
        have s2 := gb_lt p2
        have s1 : w.heap.size + 1 < wr.heap.size := by omega
        have s0 : w.heap.size < wr.heap.size := by omega
        clear p0 p1 p2 hb hc
        have hcok := hcs c (List.mem_of_getElem? C.out)
        go_wp2_with fail
        refine (matches_any c hcok o ho a.tags ha.tags _).mono ?_
        rintro e w1 ⟨rfl, hb1⟩
        have hB1 := gb_trans B.out (gb_trans (gb_alloc (Below.refl wr.heap.size wr) _) hb1)
        have t0 := gb_blk hb1 (gb_new wr _) (by simp)
        have t1 := gb_blk hb1 (gb_old wr _ P1.out) (by simp; omega)
        have t2 := gb_blk hb1 (gb_old wr _ P2.out) (by simp; omega)
        have z0 := gb_lt t0
        have z1 := gb_lt t1
        have z2 := gb_lt t2
        have hix : cs[k] = c := by have := C.out; rw [List.getElem?_eq_getElem hlt] at this; exact Option.some.inj this
        have BQ := Lib.hid hB1
        clear hb1 hB1 e0 e1 e2 e3 e4 e5 e6 e7 e8 e9 r0 r1 r2 r3 q0 q1
        cases hm : matchB c o a.tags with
        | false =>
          have HS := Lib.hid (HG.out.trans (goL_skip hlt (by rw [hix]; exact hm)))
          clear hm hix t0 t1 t2
          go_wp2_with fail
          go_roundw
          case rel => exact ⟨k + 1, by go_num, by omega, HS, BQ.out⟩
          case measure => simp [intOf] <;> omega
        | true =>
          have HS := Lib.hid (HR.out.trans (HG.out.trans (goL_hit hlt (by rw [hix]; exact hm))))
          rw [hix] at HS
          clear hm hix
          obtain ⟨-, -, -, -, -, x5, x6, x7, x8, x9⟩ := in_cells10 t0
          obtain ⟨r0, r1, r2, r3⟩ := gb_cells4 t1
          obtain ⟨y0, y1, y2, y3⟩ := gb_cells4 t2
          have f0 := gb_free t1 0
          have f1 := gb_free t1 1
          have f2 := gb_free t1 2
          have f3 := gb_free t1 3
          have g0 := gb_free t2 0
          have g1 := gb_free t2 1
          have g2 := gb_free t2 2
          have g3 := gb_free t2 3
          clear t0 t1 t2
          have hbase := Lib.hid (gb_trans BB.out BQ.out)
          cases hd : c.drop with
          | true =>
            have HE : Hid (actL c a = noAtt) := Lib.hid (by simp [actL, hd])
            go_wp2_with fail
            refine bodyPost_ret (v := attv noAtt) (by simp [results, Tryd.results23, go_sem, attv, noAtt, *]) rfl ⟨by rw [HS.out, HE.out], ?_⟩
            repeat (refine Below.setCell ?_ (by simp <;> omega) _)
            exact hbase.out
          | false =>
            have HT := Lib.hid (act_tags (t := a.tags) (x := c.set) (y := c.clr) ha.tags hcok.set hcok.clr)
            have HE : Hid (actL c a = ⟨true, if 0 < c.pref ∧ c.pref ≤ 255 then c.pref else a.pref, w64 (a.cost + max 0 (min c.more 15)), (a.tags ||| c.set) &&& (255 - c.clr) &&& 15⟩) := Lib.hid (by simp [actL, hd])
            by_cases h1 : 0 < c.pref
            · by_cases h2 : c.pref ≤ 255
              · have HQ := Lib.hid (show (if 0 < c.pref ∧ c.pref ≤ 255 then c.pref else a.pref) = c.pref by rw [if_pos ⟨h1, h2⟩])
                go_wp2_with fail
                rw [HT.out]
                refine bodyPost_ret (v := .agg #[.bool true, .int .i64 c.pref, .int .i64 (wrap64 (a.cost + max 0 (min c.more 15))), .int .u8 ((a.tags ||| c.set) &&& (255 - c.clr) &&& 15 : Nat)]) (by simp [results, Tryd.results23, go_sem, *]) rfl ⟨by rw [HS.out, HE.out, HQ.out, w64_wrap]; rfl, ?_⟩
                repeat (refine Below.setCell ?_ (by simp <;> omega) _)
                exact hbase.out
              · have HQ := Lib.hid (show (if 0 < c.pref ∧ c.pref ≤ 255 then c.pref else a.pref) = a.pref by rw [if_neg (by omega)])
                have h3 : decide (c.pref ≤ 255) = false := by simpa using h2
                go_wp2_with fail
                rw [HT.out]
                refine bodyPost_ret (v := .agg #[.bool true, .int .i64 a.pref, .int .i64 (wrap64 (a.cost + max 0 (min c.more 15))), .int .u8 ((a.tags ||| c.set) &&& (255 - c.clr) &&& 15 : Nat)]) (by simp [results, Tryd.results23, go_sem, *]) rfl ⟨by rw [HS.out, HE.out, HQ.out, w64_wrap]; rfl, ?_⟩
                repeat (refine Below.setCell ?_ (by simp <;> omega) _)
                exact hbase.out
            · have HQ := Lib.hid (show (if 0 < c.pref ∧ c.pref ≤ 255 then c.pref else a.pref) = a.pref by rw [if_neg (by omega)])
              have h3 : decide (0 < c.pref) = false := by simpa using h1
              go_wp2_with fail
              rw [HT.out]
              refine bodyPost_ret (v := .agg #[.bool true, .int .i64 a.pref, .int .i64 (wrap64 (a.cost + max 0 (min c.more 15))), .int .u8 ((a.tags ||| c.set) &&& (255 - c.clr) &&& 15 : Nat)]) (by simp [results, Tryd.results23, go_sem, *]) rfl ⟨by rw [HS.out, HE.out, HQ.out, w64_wrap]; rfl, ?_⟩
              repeat (refine Below.setCell ?_ (by simp <;> omega) _)
              exact hbase.out
      · have hk' : k = cs.length := by omega
        subst hk'
        have HS : Hid (doL cs o a = a) := Lib.hid (by rw [HR.out, HG.out]; simp [goL])
        have hbase := Lib.hid (gb_trans BB.out B.out)
        have z1 := gb_lt p1
        have z2 := gb_lt p2
        obtain ⟨r0, r1, r2, r3⟩ := gb_cells4 p1
        obtain ⟨y0, y1, y2, y3⟩ := gb_cells4 p2
        have g0 := gb_free p2 0
        have g1 := gb_free p2 1
        have g2 := gb_free p2 2
        have g3 := gb_free p2 3
        have HA : Hid (attv a = .agg #[.bool true, .int .i64 a.pref, .int .i64 a.cost, .int .u8 a.tags]) := Lib.hid (by rw [← HO.out]; rfl)
        clear p0 p1 p2 hb
        go_wp2_with fail
        refine bodyPost_ret (v := .agg #[.bool true, .int .i64 a.pref, .int .i64 a.cost, .int .u8 a.tags]) (by simp [results, Tryd.results23, go_sem, *]) rfl ⟨by rw [HS.out, HA.out], ?_⟩
        repeat (refine Below.setCell ?_ (by simp <;> omega) _)
        exact hbase.out
end Go.Proofs.YtimlfmklbfgliaaDoor
