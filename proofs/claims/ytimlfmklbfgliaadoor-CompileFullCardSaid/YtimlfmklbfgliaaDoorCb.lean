import Derived.Test.YtimlfmklbfgliaaDoorEr
import Derived.Test.YtimlfmklbfgliaaDoorTx
set_option linter.unusedVariables false
namespace Mq
/-- A bit of what an edge does. -/
def bitN (a : Att) (k : Nat) : Bool :=
  if k = 0 ∨ a.ok = false then a.ok else if k ≤ 4 then a.tags.testBit (k - 1) else if k ≤ 12 then a.pref.toNat.testBit (k - 5) else a.cost.toNat.testBit (k - 13)
/-- What an edge does is of these sizes. -/
structure Att.Row (a : Att) : Prop where
  pref : 0 ≤ a.pref ∧ a.pref ≤ 255
  cost : 0 ≤ a.cost ∧ a.cost ≤ 1030
  tags : a.tags < 16
end Mq
namespace Go.Proofs.YtimlfmklbfgliaaDoor
open Go.RowKit Mq

theorem edRow_row (e : EdV) (t : Nat) : (edRow e t).Row := by
  have ht : t &&& 15 < 16 := Nat.lt_of_le_of_lt Nat.and_le_right (by omega)
  unfold edRow edTake
  rw [takeL_shape (by omega) (by omega)]
  cases h : edgeL e.cost e.ex.l e.im.l (t &&& 15) with
  | none => exact ⟨by simp [outL, noAtt], by simp [outL, noAtt], by simp [outL, noAtt]⟩
  | some s =>
    have hs := edgeL_ok h
    have h1 := hs.lo
    have h2 := hs.hi
    have h3 := hs.pref
    simp only [outL]
    refine ⟨by simp only; omega, ?_, hs.tags ht⟩
    simp only
    rw [w64_id (by unfold is64; omega)]
    omega
theorem cbi_ofInt (a : Nat) (ha : a < 9223372036854775808) : (BitVec.ofInt 64 (a : Int)).toNat = a := by
  rw [BitVec.ofInt_natCast, BitVec.toNat_ofNat]; exact Nat.mod_eq_of_lt (by omega)
theorem cbi_and (a b : Nat) (ha : a < 9223372036854775808) (hb : b < 9223372036854775808) : bits .and .i64 (a : Int) (b : Int) = ((a &&& b : Nat) : Int) := by
  have hx : a &&& b < 2 ^ 63 := Nat.and_lt_two_pow _ (by omega)
  show IntKind.i64.wrap ((BitVec.ofInt 64 (a : Int) &&& BitVec.ofInt 64 (b : Int)).toNat : Int) = _
  rw [BitVec.toNat_and, cbi_ofInt a ha, cbi_ofInt b hb, IntKind.wrap_i64]
  omega
theorem bit_i64 (z : Int) (x s : Nat) (hz : z = ((x / 2 ^ s : Nat) : Int)) (hx : x < 9223372036854775808) : (bits BinOp.and IntKind.i64 z 1 == 1) = x.testBit s := by
  subst hz
  have hl : x / 2 ^ s < 9223372036854775808 := Nat.lt_of_le_of_lt (Nat.div_le_self _ _) hx
  have := cbi_and (x / 2 ^ s) 1 hl (by omega)
  rw [show ((1 : Nat) : Int) = 1 from rfl] at this
  rw [this, Nat.and_one_is_mod, Nat.testBit_eq_decide_div_mod_eq]
  have h2 : x / 2 ^ s % 2 = 0 ∨ x / 2 ^ s % 2 = 1 := by omega
  rcases h2 with h | h <;> rw [h] <;> rfl
theorem bit_u8 (z : Int) (x s : Nat) (hz : z = ((x / 2 ^ s : Nat) : Int)) (hx : x < 256) : (bits BinOp.and IntKind.u8 z 1 == 1) = x.testBit s := by
  subst hz
  have hl : x / 2 ^ s < 256 := Nat.lt_of_le_of_lt (Nat.div_le_self _ _) hx
  have := u8_and_nat (x / 2 ^ s) 1 hl (by omega)
  rw [show ((1 : Nat) : Int) = 1 from rfl] at this
  rw [this, Nat.and_one_is_mod, Nat.testBit_eq_decide_div_mod_eq]
  have h2 : x / 2 ^ s % 2 = 0 ∨ x / 2 ^ s % 2 = 1 := by omega
  rcases h2 with h | h <;> rw [h] <;> rfl
set_option maxRecDepth 100000 in
set_option maxHeartbeats 1000000 in
theorem bit_any (a : Att) (h : a.Row) (k : Nat) (hk : k < 24) (w : World) :
    Calls Tryd.prog 11 #[.agg #[.bool a.ok, .int .i64 a.pref, .int .i64 a.cost, .int .u8 a.tags], .int .i64 k] w fun e w' => e = .returned (.bool (bitN a k)) ∧ Below w.heap.size w w' := by
  obtain ⟨ok, p, c, m⟩ := a
  obtain ⟨⟨hp0, hp1⟩, ⟨hc0, hc1⟩, hm⟩ := h
  simp only at hp0 hp1 hc0 hc1 hm ⊢
  obtain ⟨p, rfl⟩ := Int.eq_ofNat_of_zero_le hp0
  obtain ⟨c, rfl⟩ := Int.eq_ofNat_of_zero_le hc0
  have hB := gb_alloc (Below.refl w.heap.size w) (.cells #[.bool ok, .int .i64 (p : Int), .int .i64 (c : Int), .int .u8 (m : Int)] 49)
  have BB := Lib.hid hB
  clear hB
  by_cases h0 : k = 0
  · subst h0
    have HR := Lib.hid (show bitN ⟨ok, p, c, m⟩ 0 = ok by simp [bitN])
    rw [HR.out]
    go_enter Tryd.func11, Tryd.ntmps11
    go_wp2_with fail
    go_ret
    exact ⟨rfl, BB.out⟩
  · have k0 : ((k : Int) == 0) = false := by rw [beq_eq_false_iff_ne]; omega
    cases ok with
    | false =>
      have HR := Lib.hid (show bitN ⟨false, p, c, m⟩ k = false by simp [bitN])
      rw [HR.out]
      go_enter Tryd.func11, Tryd.ntmps11
      go_wp2_with fail
      go_ret
      exact ⟨rfl, BB.out⟩
    | true =>
      by_cases h4 : k ≤ 4
      · have HR := Lib.hid (show bitN ⟨true, p, c, m⟩ k = m.testBit (k - 1) by simp [bitN, h0, h4])
        have e1 : (k : Int) - 1 = ((k - 1 : Nat) : Int) := by omega
        have e2 : (m : Int) / 2 ^ (k - 1) = ((m / 2 ^ (k - 1) : Nat) : Int) := by simp
        have E2 := Lib.hid e2
        have e3 : m / 2 ^ (k - 1) < 256 := Nat.lt_of_le_of_lt (Nat.div_le_self _ _) (by omega)
        rw [HR.out]
        clear e2
        go_enter Tryd.func11, Tryd.ntmps11
        go_wp2_with fail
        go_ret
        exact ⟨rt_bool (bit_u8 _ m (k - 1) E2.out (by omega)), BB.out⟩
      · by_cases h12 : k ≤ 12
        · have HR := Lib.hid (show bitN ⟨true, p, c, m⟩ k = p.testBit (k - 5) by simp [bitN, h0, h4, h12])
          have e1 : (k : Int) - 1 - 4 = ((k - 5 : Nat) : Int) := by omega
          have e2 : (p : Int) / 2 ^ (k - 5) = ((p / 2 ^ (k - 5) : Nat) : Int) := by simp
          have E2 := Lib.hid e2
          rw [HR.out]
          clear e2
          go_enter Tryd.func11, Tryd.ntmps11
          go_wp2_with fail
          go_ret
          exact ⟨rt_bool (bit_i64 _ p (k - 5) E2.out (by omega)), BB.out⟩
        · have HR := Lib.hid (show bitN ⟨true, p, c, m⟩ k = c.testBit (k - 13) by simp [bitN, h0, h4, h12])
          have e1 : (k : Int) - 1 - 4 - 8 = ((k - 13 : Nat) : Int) := by omega
          have e2 : (c : Int) / 2 ^ (k - 13) = ((c / 2 ^ (k - 13) : Nat) : Int) := by simp
          have E2 := Lib.hid e2
          rw [HR.out]
          clear e2
          go_enter Tryd.func11, Tryd.ntmps11
          go_wp2_with fail
          go_ret
          exact ⟨rt_bool (bit_i64 _ c (k - 13) E2.out (by omega)), BB.out⟩
end Go.Proofs.YtimlfmklbfgliaaDoor
