import Derived.Test.YtimlfmklbfgliaaCt
set_option linter.unusedVariables false
namespace Mq
theorem mod_step (x s : Nat) : x % 2 ^ (s + 1) = x % 2 ^ s + if x.testBit s then 2 ^ s else 0 := by
  rw [Nat.mod_pow_succ, Nat.testBit_eq_decide_div_mod_eq]
  have h : x / 2 ^ s % 2 = 0 ∨ x / 2 ^ s % 2 = 1 := by omega
  rcases h with h | h <;> simp [h]
theorem mod_big {x a b : Nat} (h : x < 2 ^ a) (hb : a ≤ b) : x % 2 ^ b = x := Nat.mod_eq_of_lt (Nat.lt_of_lt_of_le h (Nat.pow_le_pow_right (by omega) hb))
/-- One bit more. -/
theorem next_bits {p c m k : Nat} (hp : p < 256) (hc : c < 2048) (hm : m < 16) (hk1 : 1 ≤ k) (b : Bool) (hb : bitN ⟨true, (p : Int), (c : Int), m⟩ k = b) :
    (k ≤ 4 → p % 2 ^ (k + 1 - 5) = p % 2 ^ (k - 5) ∧ c % 2 ^ (k + 1 - 13) = c % 2 ^ (k - 13) ∧ m % 2 ^ (k + 1 - 1) = m % 2 ^ (k - 1) + if b then 2 ^ (k - 1) else 0) ∧
    (4 < k → k ≤ 12 → p % 2 ^ (k + 1 - 5) = p % 2 ^ (k - 5) + (if b then 2 ^ (k - 5) else 0) ∧ c % 2 ^ (k + 1 - 13) = c % 2 ^ (k - 13) ∧ m % 2 ^ (k + 1 - 1) = m % 2 ^ (k - 1)) ∧
    (12 < k → p % 2 ^ (k + 1 - 5) = p % 2 ^ (k - 5) ∧ c % 2 ^ (k + 1 - 13) = c % 2 ^ (k - 13) + (if b then 2 ^ (k - 13) else 0) ∧ m % 2 ^ (k + 1 - 1) = m % 2 ^ (k - 1)) := by
  unfold bitN at hb
  rw [if_neg (by simp; omega)] at hb
  refine ⟨fun h4 => ?_, fun h4 h12 => ?_, fun h12 => ?_⟩
  · rw [if_pos h4] at hb
    refine ⟨by rw [show k + 1 - 5 = k - 5 by omega], by rw [show k + 1 - 13 = k - 13 by omega], ?_⟩
    have := mod_step m (k - 1)
    simp only at hb
    rw [hb, show k - 1 + 1 = k + 1 - 1 by omega] at this
    exact this
  · rw [if_neg (by omega), if_pos h12] at hb
    refine ⟨?_, by rw [show k + 1 - 13 = k - 13 by omega], by rw [mod_big (a := 4) hm (by omega), mod_big (a := 4) hm (by omega)]⟩
    have := mod_step p (k - 5)
    simp only [Int.toNat_natCast] at hb
    rw [hb, show k - 5 + 1 = k + 1 - 5 by omega] at this
    exact this
  · rw [if_neg (by omega), if_neg (by omega)] at hb
    refine ⟨by rw [mod_big (a := 8) hp (by omega), mod_big (a := 8) hp (by omega)], ?_, by rw [mod_big (a := 4) hm (by omega), mod_big (a := 4) hm (by omega)]⟩
    have := mod_step c (k - 13)
    simp only [Int.toNat_natCast] at hb
    rw [hb, show k - 13 + 1 = k + 1 - 13 by omega] at this
    exact this
/-- What a policy makes of a route. -/
def compTake (q r : Att) : Att := if r.ok && q.ok then ⟨true, q.pref, r.cost + q.cost, q.tags⟩ else noAtt
end Mq
namespace Go.Proofs.Ytimlfmklbfgliaa
open Go.RowKit Mq

theorem or_lit : ∀ s, s < 4 → ∀ m : Nat, m < 16 → bits BinOp.or .u8 ((m : Int) % 2 ^ s) (2 ^ s % 256) = ((m % 2 ^ s + 2 ^ s : Nat) : Int) := by decide +kernel
theorem add_bit (x s : Nat) (c0 z : Int) (hz : z = c0 + ((x % 2 ^ s : Nat) : Int)) (hx : x % 2 ^ s + 2 ^ s < 4096) (h0 : 0 ≤ c0) (h1 : c0 ≤ 9000000000) : wrap64 (z + wrap64 (2 ^ s)) = c0 + ((x % 2 ^ s + 2 ^ s : Nat) : Int) := by
  subst hz
  have e : (2 : Int) ^ s = ((2 ^ s : Nat) : Int) := by simp
  rw [e]
  unfold wrap64
  omega
structure CuRel (w wr : World) (a ab pb rb ob xb : Nat) (X : Nat → Prop) (L : List Nat) (r : Att) (ns : List Nd) (most : Nat) (p c m : Nat) (c0 : Int) (k : Nat) : Prop where
  ar : Ar wr X a ns most
  below : Below w.heap.size w wr
  ha : wr.heap[ab]? = some (.cells #[.pointer (some ⟨a, 0, none⟩)] 26 (0, 0))
  hp : wr.heap[pb]? = some (.cells (outC L) 33 (0, 0))
  hr : wr.heap[rb]? = some (.cells #[.bool r.ok, .int .i64 r.pref, .int .i64 r.cost, .int .u8 r.tags] 41 (0, 0))
  hx : wr.heap[xb]? = some (.cells #[.bool false, .int .i64 0, .int .i64 0, .int .u8 0] 41 (0, 0))
  ho : wr.heap[ob]? = some (.cells #[.bool true, .int .i64 (p % 2 ^ (k - 5) : Nat), .int .i64 (c0 + (c % 2 ^ (k - 13) : Nat)), .int .u8 (m % 2 ^ (k - 1) : Nat)] 41 (0, 0))

set_option maxRecDepth 100000 in
set_option maxHeartbeats 4000000 in
theorem compTake_any {w : World} {X : Nat → Prop} {a : Nat} {ns : List Nd} {most : Nat} (h : Ar w X a ns most) (e : EdV) (L : List Nat) (hL : PolOk ns (edT e) L) (r : Att) (hm : r.tags < 256) (hc0 : 0 ≤ r.cost) (hc1 : r.cost ≤ 9000000000) (hrp : is64 r.pref) :
    Calls Try.prog 17 #[.pointer (some ⟨a, 0, none⟩), .agg (outC L), .agg #[.bool r.ok, .int .i64 r.pref, .int .i64 r.cost, .int .u8 r.tags]] w (DoPost w (compTake (edRow e (r.tags % 16)) r)) := by
  have H := Lib.hid h
  have HL := Lib.hid hL
  have HQ := Lib.hid (edRow_row e (r.tags % 16))
  have HM := Lib.hid hm
  clear h hL hm
  go_enter Try.func17, Try.ntmps17
  go_upto_region 2 with fail
  obtain ⟨e1, e2, e3, e4, e5⟩ := heap4c w (.cells #[.pointer (some ⟨a, 0, none⟩)] 26) (.cells (outC L) 33) (.cells #[.bool r.ok, .int .i64 r.pref, .int .i64 r.cost, .int .u8 r.tags] 41) (.cells #[.bool false, .int .i64 0, .int .i64 0, .int .u8 0] 41)
  have hB := gb_alloc (gb_alloc (gb_alloc (gb_alloc (Below.refl w.heap.size w) (.cells #[.pointer (some ⟨a, 0, none⟩)] 26)) (.cells (outC L) 33)) (.cells #[.bool r.ok, .int .i64 r.pref, .int .i64 r.cost, .int .u8 r.tags] 41)) (.cells #[.bool false, .int .i64 0, .int .i64 0, .int .u8 0] 41)
  have hA := H.out.below hB
  generalize (((w.alloc (.cells #[.pointer (some ⟨a, 0, none⟩)] 26)).alloc (.cells (outC L) 33)).alloc (.cells #[.bool r.ok, .int .i64 r.pref, .int .i64 r.cost, .int .u8 r.tags] 41)).alloc (.cells #[.bool false, .int .i64 0, .int .i64 0, .int .u8 0] 41) = W at *
  have E1 := Lib.hid e1
  have E2 := Lib.hid e2
  have E3 := Lib.hid e3
  have E4 := Lib.hid e4
  have E5 := Lib.hid e5
  have BW := Lib.hid hB
  have AW := Lib.hid hA
  clear e1 e2 e3 e4 e5 hB hA
  obtain ⟨q0, q1, q2, q3⟩ := gb_cells4 E3.out
  obtain ⟨x0, x1, x2, x3⟩ := gb_cells4 E4.out
  have f0 := gb_free E4.out 0
  have f1 := gb_free E4.out 1
  have f2 := gb_free E4.out 2
  have f3 := gb_free E4.out 3
  generalize hq : edRow e (r.tags % 16) = q at *
  have HQQ := Lib.hid hq
  clear hq
  cases hok : r.ok with
  | false =>
    rw [hok] at q0
    have HR := Lib.hid (show compTake q r = noAtt by simp [compTake, hok])
    have B5 := Lib.hid ((((BW.out.setCell (p := ⟨w.heap.size + 1 + 1 + 1, 0, none⟩) (by simp; omega) (.bool false)).setCell (p := ⟨w.heap.size + 1 + 1 + 1, 1, none⟩) (by simp; omega) (.int .i64 0)).setCell (p := ⟨w.heap.size + 1 + 1 + 1, 2, none⟩) (by simp; omega) (.int .i64 0)).setCell (p := ⟨w.heap.size + 1 + 1 + 1, 3, none⟩) (by simp; omega) (.int .u8 0))
    have R5 := gb_set (gb_set (gb_set (gb_set E4.out 0 (.bool false)) 1 (.int .i64 0)) 2 (.int .i64 0)) 3 (.int .u8 0)
    clear hok
    go_wp2_with fail
    generalize (((W.setCell ⟨w.heap.size + 1 + 1 + 1, 0, none⟩ (.bool false)).setCell ⟨w.heap.size + 1 + 1 + 1, 1, none⟩ (.int .i64 0)).setCell ⟨w.heap.size + 1 + 1 + 1, 2, none⟩ (.int .i64 0)).setCell ⟨w.heap.size + 1 + 1 + 1, 3, none⟩ (.int .u8 0) = W5 at *
    have R6 : W5.heap[w.heap.size + 1 + 1 + 1]? = some (.cells #[.bool false, .int .i64 0, .int .i64 0, .int .u8 0] 41 (0, 0)) := R5
    obtain ⟨y0, y1, y2, y3⟩ := gb_cells4 R6
    refine bodyPost_ret (v := .agg #[.bool false, .int .i64 0, .int .i64 0, .int .u8 0]) (by simp [results, Try.results17, go_sem, y0, y1, y2, y3]) rfl ?_
    unfold DoPost
    rw [HR.out]
    exact ⟨rfl, B5.out⟩
  | true =>
    rw [hok] at q0
    have HC := Lib.hid (ctIs_any AW.out (edT e) L HL.out r HM.out E1.out E2.out (by rw [← hok] at *; exact E3.out) 0 (by omega))
    have h0 : edT e 0 (r.tags % 16) = q.ok := by rw [← HQQ.out]; simp [edT, bitN]
    rw [h0] at HC
    have HOK := Lib.hid hok
    clear h0 hok
    go_wp2_with fail
    refine HC.out.mono ?_
    rintro en w1 ⟨rfl, hb⟩
    have B1 := Lib.hid hb
    have e4' := gb_blk hb E4.out (gb_lt E4.out)
    have e3' := gb_blk hb E3.out (gb_lt E3.out)
    clear hb x0 x1 x2 x3 f0 f1 f2 f3 q0 q1 q2 q3
    obtain ⟨q0, q1, q2, q3⟩ := gb_cells4 e3'
    obtain ⟨x0, x1, x2, x3⟩ := gb_cells4 e4'
    have f0 := gb_free e4' 0
    have f1 := gb_free e4' 1
    have f2 := gb_free e4' 2
    have f3 := gb_free e4' 3
    cases hqk : q.ok with
    | false =>
      have HR := Lib.hid (show compTake q r = noAtt by simp [compTake, hqk])
      have B5 := Lib.hid (((((gb_trans BW.out B1.out).setCell (p := ⟨w.heap.size + 1 + 1 + 1, 0, none⟩) (by simp; omega) (.bool false)).setCell (p := ⟨w.heap.size + 1 + 1 + 1, 1, none⟩) (by simp; omega) (.int .i64 0)).setCell (p := ⟨w.heap.size + 1 + 1 + 1, 2, none⟩) (by simp; omega) (.int .i64 0)).setCell (p := ⟨w.heap.size + 1 + 1 + 1, 3, none⟩) (by simp; omega) (.int .u8 0))
      have R5 := gb_set (gb_set (gb_set (gb_set e4' 0 (.bool false)) 1 (.int .i64 0)) 2 (.int .i64 0)) 3 (.int .u8 0)
      clear hqk
      go_wp2_with fail
      generalize (((w1.setCell ⟨w.heap.size + 1 + 1 + 1, 0, none⟩ (.bool false)).setCell ⟨w.heap.size + 1 + 1 + 1, 1, none⟩ (.int .i64 0)).setCell ⟨w.heap.size + 1 + 1 + 1, 2, none⟩ (.int .i64 0)).setCell ⟨w.heap.size + 1 + 1 + 1, 3, none⟩ (.int .u8 0) = W5 at *
      have R6 : W5.heap[w.heap.size + 1 + 1 + 1]? = some (.cells #[.bool false, .int .i64 0, .int .i64 0, .int .u8 0] 41 (0, 0)) := R5
      obtain ⟨y0, y1, y2, y3⟩ := gb_cells4 R6
      refine bodyPost_ret (v := .agg #[.bool false, .int .i64 0, .int .i64 0, .int .u8 0]) (by simp [results, Try.results17, go_sem, y0, y1, y2, y3]) rfl ?_
      unfold DoPost
      rw [HR.out]
      exact ⟨rfl, B5.out⟩
    | true =>
      obtain ⟨qk, qp, qc, qm⟩ := q
      simp only at hqk
      subst hqk
      obtain ⟨⟨p0, p1⟩, ⟨c0, c1⟩, m0⟩ := HQ.out
      simp only at p0 p1 c0 c1 m0
      obtain ⟨p, rfl⟩ := Int.eq_ofNat_of_zero_le p0
      obtain ⟨c, rfl⟩ := Int.eq_ofNat_of_zero_le c0
      go_upto_region 5 with fail
      have n0 := gb_new w1 (.cells #[.bool true, .int .i64 0, .int .i64 r.cost, .int .u8 0] 41)
      have nb := gb_alloc (Below.refl w1.heap.size w1) (.cells #[.bool true, .int .i64 0, .int .i64 r.cost, .int .u8 0] 41)
      have NA := (AW.out.below B1.out).alloc (.cells #[.bool true, .int .i64 0, .int .i64 r.cost, .int .u8 0] 41)
      generalize w1.alloc (.cells #[.bool true, .int .i64 0, .int .i64 r.cost, .int .u8 0] 41) = w2 at *
      have hob : w.heap.size + 4 ≤ w1.heap.size := by have := B1.out.size; have := E5.out; omega
      have B2 := Lib.hid (gb_trans B1.out nb)
      have REL : Hid (CuRel w w2 a w.heap.size (w.heap.size + 1) (w.heap.size + 1 + 1) w1.heap.size (w.heap.size + 1 + 1 + 1) (fun q => X q ∨ q = w1.heap.size) L r ns most p c qm r.cost 1) := Lib.hid
        { ar := NA, below := gb_trans BW.out B2.out, ha := gb_blk B2.out E1.out (gb_lt E1.out), hp := gb_blk B2.out E2.out (gb_lt E2.out), hr := gb_blk B2.out E3.out (gb_lt E3.out), hx := gb_blk B2.out E4.out (gb_lt E4.out),
          ho := by simpa [Nat.mod_one] using n0 }
      generalize w1.heap.size = ob at *
      clear n0 nb NA x0 x1 x2 x3 f0 f1 f2 f3 q0 q1 q2 q3 e4' e3'
      go_wp2_with fail
      go_loopw [9] (fun j wr => ∃ k : Nat, j = .int .i64 k ∧ 1 ≤ k ∧ k ≤ 24 ∧ CuRel w wr a w.heap.size (w.heap.size + 1) (w.heap.size + 1 + 1) ob (w.heap.size + 1 + 1 + 1) (fun q => X q ∨ q = ob) L r ns most p c qm r.cost k) (fun j _ => 24 - (intOf j).toNat)
      case atStart => exact ⟨1, rfl, by omega, by omega, REL.out⟩
      case round =>
        obtain ⟨k, rfl, hk1, hk, hrel⟩ := hrel
        have R := Lib.hid hrel
        clear hrel
        by_cases hlt : k < 24
        · have HC := Lib.hid (ctIs_any R.out.ar (edT e) L HL.out r HM.out R.out.ha R.out.hp R.out.hr k hlt)
          have hT : edT e k (r.tags % 16) = bitN ⟨true, (p : Int), (c : Int), qm⟩ k := by rw [← HQQ.out]; rfl
          rw [hT] at HC
          clear hT
          go_wp2_with fail
          refine HC.out.mono ?_
          rintro en w5 ⟨rfl, hb⟩
          have o5 := gb_blk hb R.out.ho (gb_lt R.out.ho)
          have O5 := Lib.hid o5
          have B5 := Lib.hid (gb_trans R.out.below hb)
          have A5 := Lib.hid (R.out.ar.below hb)
          have H1 := Lib.hid (gb_blk hb R.out.ha (gb_lt R.out.ha))
          have H2 := Lib.hid (gb_blk hb R.out.hp (gb_lt R.out.hp))
          have H3 := Lib.hid (gb_blk hb R.out.hr (gb_lt R.out.hr))
          have H4 := Lib.hid (gb_blk hb R.out.hx (gb_lt R.out.hx))
          obtain ⟨y0, y1, y2, y3⟩ := gb_cells4 o5
          have g0 := gb_free o5 1
          have g1 := gb_free o5 2
          have g2 := gb_free o5 3
          clear hb o5
          cases hbit : bitN ⟨true, (p : Int), (c : Int), qm⟩ k with
          | false =>
            have hN := next_bits (p := p) (c := c) (m := qm) (by omega) (by omega) m0 hk1 false hbit
            have hsame : p % 2 ^ (k + 1 - 5) = p % 2 ^ (k - 5) ∧ c % 2 ^ (k + 1 - 13) = c % 2 ^ (k - 13) ∧ qm % 2 ^ (k + 1 - 1) = qm % 2 ^ (k - 1) := by
              by_cases h4 : k ≤ 4
              · have := hN.1 h4; simpa using this
              · by_cases h12 : k ≤ 12
                · have := hN.2.1 (by omega) h12; simpa using this
                · have := hN.2.2 (by omega); simpa using this
            have REL : Hid (CuRel w w5 a w.heap.size (w.heap.size + 1) (w.heap.size + 1 + 1) ob (w.heap.size + 1 + 1 + 1) (fun q => X q ∨ q = ob) L r ns most p c qm r.cost (k + 1)) := Lib.hid
              { ar := A5.out, below := B5.out, ha := H1.out, hp := H2.out, hr := H3.out, hx := H4.out, ho := by rw [hsame.1, hsame.2.1, hsame.2.2]; exact O5.out }
            clear hbit hN hsame
            go_wp2_with fail
            go_roundw
            case rel => exact ⟨k + 1, by go_num, by omega, by omega, REL.out⟩
            case measure => simp [intOf] <;> omega
          | true =>
            by_cases h4 : k ≤ 4
            · have e1 : (k : Int) - 1 = ((k - 1 : Nat) : Int) := by omega
              have hN := (next_bits (p := p) (c := c) (m := qm) (by omega) (by omega) m0 hk1 true hbit).1 h4
              have HN := Lib.hid hN
              clear hbit hN
              have HBL : Hid (ob ≠ w.heap.size ∧ ob ≠ w.heap.size + 1 ∧ ob ≠ w.heap.size + 1 + 1 ∧ ob ≠ w.heap.size + 1 + 1 + 1) := Lib.hid ⟨by omega, by omega, by omega, by omega⟩
              go_wp2_with fail
              go_region
              rw [or_lit (k - 1) (by omega) qm m0]
              have REL : Hid (CuRel w (w5.setCell ⟨ob, 3, none⟩ (.int .u8 ((qm % 2 ^ (k - 1) + 2 ^ (k - 1) : Nat) : Int))).drew a w.heap.size (w.heap.size + 1) (w.heap.size + 1 + 1) ob (w.heap.size + 1 + 1 + 1) (fun q => X q ∨ q = ob) L r ns most p c qm r.cost (k + 1)) := Lib.hid
                { ar := (A5.out.setCell (p := ⟨ob, 3, none⟩) (.inr rfl) _).drew, below := (B5.out.setCell (p := ⟨ob, 3, none⟩) (by simp; omega) _).drew, ha := gb_far H1.out (Ne.symm HBL.out.1) _, hp := gb_far H2.out (Ne.symm HBL.out.2.1) _, hr := gb_far H3.out (Ne.symm HBL.out.2.2.1) _, hx := gb_far H4.out (Ne.symm HBL.out.2.2.2) _,
                  ho := by rw [HN.out.1, HN.out.2.1, HN.out.2.2]; exact gb_set O5.out 3 _ }
              generalize (w5.setCell ⟨ob, 3, none⟩ (.int .u8 ((qm % 2 ^ (k - 1) + 2 ^ (k - 1) : Nat) : Int))).drew = w6 at *
              clear y0 y1 y2 y3 g0 g1 g2
              go_wp2_with fail
              go_roundw
              case rel => exact ⟨k + 1, by go_num, by omega, by omega, REL.out⟩
              case measure => simp [intOf] <;> omega
            · by_cases h12 : k ≤ 12
              · have hN := (next_bits (p := p) (c := c) (m := qm) (by omega) (by omega) m0 hk1 true hbit).2.1 (by omega) h12
                have HN := Lib.hid hN
                clear hbit hN
                have HBL : Hid (ob ≠ w.heap.size ∧ ob ≠ w.heap.size + 1 ∧ ob ≠ w.heap.size + 1 + 1 ∧ ob ≠ w.heap.size + 1 + 1 + 1) := Lib.hid ⟨by omega, by omega, by omega, by omega⟩
                go_wp2_with fail
                go_region
                rw [show k - 1 - 4 = k - 5 by omega, add_bit p (k - 5) 0 _ (by simp) (by have := HN.out.1; have := Nat.mod_le p (2 ^ (k + 1 - 5)); simp only [if_true] at *; omega) (by omega) (by omega), Int.zero_add]
                have REL : Hid (CuRel w (w5.setCell ⟨ob, 1, none⟩ (.int .i64 ((p % 2 ^ (k - 5) + 2 ^ (k - 5) : Nat) : Int))).drew a w.heap.size (w.heap.size + 1) (w.heap.size + 1 + 1) ob (w.heap.size + 1 + 1 + 1) (fun q => X q ∨ q = ob) L r ns most p c qm r.cost (k + 1)) := Lib.hid
                  { ar := (A5.out.setCell (p := ⟨ob, 1, none⟩) (.inr rfl) _).drew, below := (B5.out.setCell (p := ⟨ob, 1, none⟩) (by simp; omega) _).drew, ha := gb_far H1.out (Ne.symm HBL.out.1) _, hp := gb_far H2.out (Ne.symm HBL.out.2.1) _, hr := gb_far H3.out (Ne.symm HBL.out.2.2.1) _, hx := gb_far H4.out (Ne.symm HBL.out.2.2.2) _,
                    ho := by rw [HN.out.1, HN.out.2.1, HN.out.2.2]; exact gb_set O5.out 1 _ }
                generalize (w5.setCell ⟨ob, 1, none⟩ (.int .i64 ((p % 2 ^ (k - 5) + 2 ^ (k - 5) : Nat) : Int))).drew = w6 at *
                clear y0 y1 y2 y3 g0 g1 g2
                go_wp2_with fail
                go_roundw
                case rel => exact ⟨k + 1, by go_num, by omega, by omega, REL.out⟩
                case measure => simp [intOf] <;> omega
              · have hN := (next_bits (p := p) (c := c) (m := qm) (by omega) (by omega) m0 hk1 true hbit).2.2 (by omega)
                have HN := Lib.hid hN
                clear hbit hN
                have HBL : Hid (ob ≠ w.heap.size ∧ ob ≠ w.heap.size + 1 ∧ ob ≠ w.heap.size + 1 + 1 ∧ ob ≠ w.heap.size + 1 + 1 + 1) := Lib.hid ⟨by omega, by omega, by omega, by omega⟩
                go_wp2_with fail
                go_region
                rw [show k - 1 - 4 - 8 = k - 13 by omega, add_bit c (k - 13) r.cost _ (by simp) (by have := HN.out.2.1; have := Nat.mod_le c (2 ^ (k + 1 - 13)); simp only [if_true] at *; omega) hc0 hc1]
                have REL : Hid (CuRel w (w5.setCell ⟨ob, 2, none⟩ (.int .i64 (r.cost + ((c % 2 ^ (k - 13) + 2 ^ (k - 13) : Nat) : Int)))).drew a w.heap.size (w.heap.size + 1) (w.heap.size + 1 + 1) ob (w.heap.size + 1 + 1 + 1) (fun q => X q ∨ q = ob) L r ns most p c qm r.cost (k + 1)) := Lib.hid
                  { ar := (A5.out.setCell (p := ⟨ob, 2, none⟩) (.inr rfl) _).drew, below := (B5.out.setCell (p := ⟨ob, 2, none⟩) (by simp; omega) _).drew, ha := gb_far H1.out (Ne.symm HBL.out.1) _, hp := gb_far H2.out (Ne.symm HBL.out.2.1) _, hr := gb_far H3.out (Ne.symm HBL.out.2.2.1) _, hx := gb_far H4.out (Ne.symm HBL.out.2.2.2) _,
                    ho := by rw [HN.out.1, HN.out.2.1, HN.out.2.2]; exact gb_set O5.out 2 _ }
                generalize (w5.setCell ⟨ob, 2, none⟩ (.int .i64 (r.cost + ((c % 2 ^ (k - 13) + 2 ^ (k - 13) : Nat) : Int)))).drew = w6 at *
                clear y0 y1 y2 y3 g0 g1 g2
                go_wp2_with fail
                go_roundw
                case rel => exact ⟨k + 1, by go_num, by omega, by omega, REL.out⟩
                case measure => simp [intOf] <;> omega
        · have hk' : k = 24 := by omega
          subst hk'
          have ho := R.out.ho
          rw [show p % 2 ^ (24 - 5) = p from mod_big (a := 8) (by omega) (by omega), show c % 2 ^ (24 - 13) = c from Nat.mod_eq_of_lt (by omega), show qm % 2 ^ (24 - 1) = qm from mod_big (a := 4) m0 (by omega)] at ho
          have HR := Lib.hid (show compTake ⟨true, (p : Int), (c : Int), qm⟩ r = ⟨true, (p : Int), r.cost + (c : Int), qm⟩ by simp [compTake, HOK.out])
          have BF := Lib.hid ((((R.out.below.setCell (p := ⟨w.heap.size + 1 + 1 + 1, 0, none⟩) (by simp; omega) (.bool true)).setCell (p := ⟨w.heap.size + 1 + 1 + 1, 1, none⟩) (by simp; omega) (.int .i64 p)).setCell (p := ⟨w.heap.size + 1 + 1 + 1, 2, none⟩) (by simp; omega) (.int .i64 (r.cost + (c : Int)))).setCell (p := ⟨w.heap.size + 1 + 1 + 1, 3, none⟩) (by simp; omega) (.int .u8 qm))
          have RF := gb_set (gb_set (gb_set (gb_set R.out.hx 0 (.bool true)) 1 (.int .i64 p)) 2 (.int .i64 (r.cost + (c : Int)))) 3 (.int .u8 qm)
          have RF2 := Lib.hid RF
          obtain ⟨y0, y1, y2, y3⟩ := gb_cells4 ho
          obtain ⟨x0, x1, x2, x3⟩ := gb_cells4 R.out.hx
          have f0 := gb_free R.out.hx 0
          have f1 := gb_free R.out.hx 1
          have f2 := gb_free R.out.hx 2
          have f3 := gb_free R.out.hx 3
          clear ho RF
          go_wp2_with fail
          generalize (((wr.setCell ⟨w.heap.size + 1 + 1 + 1, 0, none⟩ (.bool true)).setCell ⟨w.heap.size + 1 + 1 + 1, 1, none⟩ (.int .i64 p)).setCell ⟨w.heap.size + 1 + 1 + 1, 2, none⟩ (.int .i64 (r.cost + (c : Int)))).setCell ⟨w.heap.size + 1 + 1 + 1, 3, none⟩ (.int .u8 qm) = W5 at *
          have R6 : W5.heap[w.heap.size + 1 + 1 + 1]? = some (.cells #[.bool true, .int .i64 p, .int .i64 (r.cost + (c : Int)), .int .u8 qm] 41 (0, 0)) := RF2.out
          clear y0 y1 y2 y3
          obtain ⟨y0, y1, y2, y3⟩ := gb_cells4 R6
          refine bodyPost_ret (v := .agg #[.bool true, .int .i64 p, .int .i64 (r.cost + (c : Int)), .int .u8 qm]) (by simp [results, Try.results17, go_sem, y0, y1, y2, y3]) rfl ?_
          unfold DoPost
          rw [HR.out]
          exact ⟨rfl, BF.out⟩
end Go.Proofs.Ytimlfmklbfgliaa
