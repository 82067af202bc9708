import Derived.Test.YtbceacihkdmgkaaCmp
set_option linter.unusedVariables false
namespace Go.Proofs.Ytbceacihkdmgkaa
open Go.RowKit Mq

theorem numOf_bit (T : Nat → Bool) (k : Nat) : ∀ i, (numOf T k).testBit i = (decide (i < k) && T i) := by
  induction k with
  | zero => intro i; simp [numOf]
  | succ k ih =>
    intro i
    have hlt := numOf_lt T k
    rw [numOf]
    by_cases hT : T k = true
    · rw [if_pos hT, Nat.add_comm]
      by_cases hi : i < k
      · rw [Nat.testBit_two_pow_add_gt hi, ih]
        have : decide (i < k + 1) = decide (i < k) := by rw [decide_eq_decide]; omega
        rw [this]
      · by_cases he : i = k
        · subst he
          rw [Nat.testBit_two_pow_add_eq, Nat.testBit_lt_two_pow hlt]; simp [hT]
        · have h2 : 2 ^ (k + 1) ≤ 2 ^ i := Nat.pow_le_pow_right (by omega) (by omega)
          have hp := Nat.pow_succ 2 k
          rw [Nat.testBit_lt_two_pow (by omega)]
          simp; omega
    · rw [if_neg hT, Nat.add_zero, ih]
      by_cases he : i = k
      · subst he; simp [hT]
      · have : decide (i < k + 1) = decide (i < k) := by rw [decide_eq_decide]; omega
        rw [this]
def setb (k v : Nat) (one : Bool) : Nat := if one then k ||| 2 ^ (3 - v) else k &&& (15 - 2 ^ (3 - v))
theorem setb_lt (k v : Nat) (one : Bool) (hk : k < 16) (hv : v < 4) : setb k v one < 16 := by
  have hv' : v = 0 ∨ v = 1 ∨ v = 2 ∨ v = 3 := by omega
  unfold setb
  split
  · exact Nat.or_lt_two_pow (n := 4) hk (by rcases hv' with rfl | rfl | rfl | rfl <;> decide)
  · exact Nat.lt_of_le_of_lt Nat.and_le_left hk
theorem setb_idx (r : Nat → Bool) (v : Nat) (hv : v < 4) (one : Bool) : setb (idx 4 0 r) v one = idx 4 0 (upd r v one) := by
  have hv' : v = 0 ∨ v = 1 ∨ v = 2 ∨ v = 3 := by omega
  rcases hv' with rfl | rfl | rfl | rfl <;> simp only [idx, upd, Nat.reduceAdd, Nat.reduceEqDiff, if_true, if_false] <;> cases r 0 <;> cases r 1 <;> cases r 2 <;> cases r 3 <;> cases one <;> rfl
/-- The table where a variable has a value. -/
def atN (x v : Nat) (one : Bool) : Nat := numOf (fun k => x.testBit (setb k v one)) 16
theorem atN_lt (x v : Nat) (one : Bool) : atN x v one < 65536 := numOf_lt _ 16
theorem atN_bit (x v : Nat) (hv : v < 4) (one : Bool) (r : Nat → Bool) : (atN x v one).testBit (idx 4 0 r) = x.testBit (idx 4 0 (upd r v one)) := by
  unfold atN
  rw [numOf_bit, ← setb_idx r v hv one]
  simp [idx_lt16 r]
theorem andNot_lit (k v : Nat) (hk : k < 16) (hv : v < 4) (z : Int) (hz : z = ((2 ^ (3 - v) : Nat) : Int)) : bits BinOp.andNot .i64 (k : Int) z = (setb k v false : Nat) := by
  subst hz
  have hv' : v = 0 ∨ v = 1 ∨ v = 2 ∨ v = 3 := by omega
  have hk' : k = 0 ∨ k = 1 ∨ k = 2 ∨ k = 3 ∨ k = 4 ∨ k = 5 ∨ k = 6 ∨ k = 7 ∨ k = 8 ∨ k = 9 ∨ k = 10 ∨ k = 11 ∨ k = 12 ∨ k = 13 ∨ k = 14 ∨ k = 15 := by omega
  rcases hk' with rfl | rfl | rfl | rfl | rfl | rfl | rfl | rfl | rfl | rfl | rfl | rfl | rfl | rfl | rfl | rfl <;> rcases hv' with rfl | rfl | rfl | rfl <;> decide
theorem or_lit (k v : Nat) (hk : k < 16) (hv : v < 4) (z : Int) (hz : z = ((2 ^ (3 - v) : Nat) : Int)) : bits BinOp.or .i64 (k : Int) z = (setb k v true : Nat) := by
  subst hz
  have hv' : v = 0 ∨ v = 1 ∨ v = 2 ∨ v = 3 := by omega
  have hk' : k = 0 ∨ k = 1 ∨ k = 2 ∨ k = 3 ∨ k = 4 ∨ k = 5 ∨ k = 6 ∨ k = 7 ∨ k = 8 ∨ k = 9 ∨ k = 10 ∨ k = 11 ∨ k = 12 ∨ k = 13 ∨ k = 14 ∨ k = 15 := by omega
  rcases hk' with rfl | rfl | rfl | rfl | rfl | rfl | rfl | rfl | rfl | rfl | rfl | rfl | rfl | rfl | rfl | rfl <;> rcases hv' with rfl | rfl | rfl | rfl <;> decide

theorem and_bit1 (x s : Nat) (hx : x < 65536) : bits BinOp.and .u16 ((x : Int) / 2 ^ s) 1 = ((if x.testBit s then 1 else 0 : Nat) : Int) := by
  have h1 : ((x : Int) / 2 ^ s) = ((x / 2 ^ s : Nat) : Int) := by simp
  have hlt : x / 2 ^ s < 65536 := Nat.lt_of_le_of_lt (Nat.div_le_self _ _) hx
  have h2 := u16_and_nat (x / 2 ^ s) 1 hlt (by omega)
  rw [show ((1 : Nat) : Int) = 1 from rfl] at h2
  rw [h1, h2, Nat.and_one_is_mod, Nat.testBit_eq_decide_div_mod_eq]
  by_cases h : x / 2 ^ s % 2 = 1
  · simp [h]
  · have : x / 2 ^ s % 2 = 0 := by omega
    simp [this]
theorem or_step (T : Nat → Bool) (i : Nat) (hi : i < 16) (z : Int) (hz : z = ((if T i then 1 else 0 : Nat) : Int)) : bits BinOp.or .u16 (numOf T i : Nat) (IntKind.u16.wrap (z * 2 ^ i)) = (numOf T (i + 1) : Nat) := by
  subst hz
  have hlt := numOf_lt T i
  cases hT : T i
  · have hl2 : numOf T i < 65536 := Nat.lt_of_lt_of_le hlt (by have : 2 ^ i ≤ 2 ^ 16 := Nat.pow_le_pow_right (by omega) (by omega); omega)
    have := u16_or_nat (numOf T i) 0 hl2 (by omega)
    simp only [numOf, hT]
    simpa [IntKind.wrap_u16] using this
  · have := or_bit (numOf T i) i hi hlt
    simp only [numOf, hT]
    simpa using this

set_option maxRecDepth 100000 in
set_option maxHeartbeats 1000000 in
theorem at_any (x v : Nat) (one : Bool) (hx : x < 65536) (hv : v < 4) (w : World) :
    Calls Try.prog 48 #[.int .u16 x, .int .i64 v, .bool one] w fun e w' => e = .returned (.int .u16 (atN x v one : Nat)) ∧ Below w.heap.size w w' := by
  obtain ⟨T, hT⟩ : ∃ T : Nat → Bool, T = fun k => x.testBit (setb k v one) := ⟨_, rfl⟩
  have e : atN x v one = numOf T 16 := by rw [hT]; rfl
  rw [e]
  have HT := Lib.hid hT
  clear e hT
  have hv' : v = 0 ∨ v = 1 ∨ v = 2 ∨ v = 3 := by omega
  rcases hv' with rfl | rfl | rfl | rfl
  · go_enter Try.func48, Try.ntmps48
    go_wp2_with fail
    go_loopw [7, 10] (fun o k wr => ∃ i : Nat, i ≤ 16 ∧ k = .int .i64 i ∧ o = .int .u16 (numOf T i : Nat) ∧ Below w.heap.size w wr) (fun _ k _ => 16 - (intOf k).toNat)
    case atStart => exact ⟨0, by omega, rfl, rfl, Below.refl _ _⟩
    case round =>
      obtain ⟨i, hi, rfl, rfl, hb⟩ := hrel
      by_cases hlt : i < 16
      · have a1 := andNot_lit i 0 hlt (by omega) 8 rfl
        have a2 := or_lit i 0 hlt (by omega) 8 rfl
        have b1 := setb_lt i 0 false hlt (by omega)
        have b2 := setb_lt i 0 true hlt (by omega)
        cases one
        · go_wp2_with fail
          exact ⟨⟨i + 1, by omega, by go_num, by rw [or_step T i hlt _ (by rw [and_bit1 _ _ hx, HT.out])], hb⟩, by simp [intOf]; omega⟩
        · go_wp2_with fail
          exact ⟨⟨i + 1, by omega, by go_num, by rw [or_step T i hlt _ (by rw [and_bit1 _ _ hx, HT.out])], hb⟩, by simp [intOf]; omega⟩
      · obtain rfl : i = 16 := by omega
        go_wp2_with fail
        go_ret
        exact ⟨rfl, hb⟩
  · go_enter Try.func48, Try.ntmps48
    go_wp2_with fail
    go_loopw [7, 10] (fun o k wr => ∃ i : Nat, i ≤ 16 ∧ k = .int .i64 i ∧ o = .int .u16 (numOf T i : Nat) ∧ Below w.heap.size w wr) (fun _ k _ => 16 - (intOf k).toNat)
    case atStart => exact ⟨0, by omega, rfl, rfl, Below.refl _ _⟩
    case round =>
      obtain ⟨i, hi, rfl, rfl, hb⟩ := hrel
      by_cases hlt : i < 16
      · have a1 := andNot_lit i 1 hlt (by omega) 4 rfl
        have a2 := or_lit i 1 hlt (by omega) 4 rfl
        have b1 := setb_lt i 1 false hlt (by omega)
        have b2 := setb_lt i 1 true hlt (by omega)
        cases one
        · go_wp2_with fail
          exact ⟨⟨i + 1, by omega, by go_num, by rw [or_step T i hlt _ (by rw [and_bit1 _ _ hx, HT.out])], hb⟩, by simp [intOf]; omega⟩
        · go_wp2_with fail
          exact ⟨⟨i + 1, by omega, by go_num, by rw [or_step T i hlt _ (by rw [and_bit1 _ _ hx, HT.out])], hb⟩, by simp [intOf]; omega⟩
      · obtain rfl : i = 16 := by omega
        go_wp2_with fail
        go_ret
        exact ⟨rfl, hb⟩
  · go_enter Try.func48, Try.ntmps48
    go_wp2_with fail
    go_loopw [7, 10] (fun o k wr => ∃ i : Nat, i ≤ 16 ∧ k = .int .i64 i ∧ o = .int .u16 (numOf T i : Nat) ∧ Below w.heap.size w wr) (fun _ k _ => 16 - (intOf k).toNat)
    case atStart => exact ⟨0, by omega, rfl, rfl, Below.refl _ _⟩
    case round =>
      obtain ⟨i, hi, rfl, rfl, hb⟩ := hrel
      by_cases hlt : i < 16
      · have a1 := andNot_lit i 2 hlt (by omega) 2 rfl
        have a2 := or_lit i 2 hlt (by omega) 2 rfl
        have b1 := setb_lt i 2 false hlt (by omega)
        have b2 := setb_lt i 2 true hlt (by omega)
        cases one
        · go_wp2_with fail
          exact ⟨⟨i + 1, by omega, by go_num, by rw [or_step T i hlt _ (by rw [and_bit1 _ _ hx, HT.out])], hb⟩, by simp [intOf]; omega⟩
        · go_wp2_with fail
          exact ⟨⟨i + 1, by omega, by go_num, by rw [or_step T i hlt _ (by rw [and_bit1 _ _ hx, HT.out])], hb⟩, by simp [intOf]; omega⟩
      · obtain rfl : i = 16 := by omega
        go_wp2_with fail
        go_ret
        exact ⟨rfl, hb⟩
  · go_enter Try.func48, Try.ntmps48
    go_wp2_with fail
    go_loopw [7, 10] (fun o k wr => ∃ i : Nat, i ≤ 16 ∧ k = .int .i64 i ∧ o = .int .u16 (numOf T i : Nat) ∧ Below w.heap.size w wr) (fun _ k _ => 16 - (intOf k).toNat)
    case atStart => exact ⟨0, by omega, rfl, rfl, Below.refl _ _⟩
    case round =>
      obtain ⟨i, hi, rfl, rfl, hb⟩ := hrel
      by_cases hlt : i < 16
      · have a1 := andNot_lit i 3 hlt (by omega) 1 rfl
        have a2 := or_lit i 3 hlt (by omega) 1 rfl
        have b1 := setb_lt i 3 false hlt (by omega)
        have b2 := setb_lt i 3 true hlt (by omega)
        cases one
        · go_wp2_with fail
          exact ⟨⟨i + 1, by omega, by go_num, by rw [or_step T i hlt _ (by rw [and_bit1 _ _ hx, HT.out])], hb⟩, by simp [intOf]; omega⟩
        · go_wp2_with fail
          exact ⟨⟨i + 1, by omega, by go_num, by rw [or_step T i hlt _ (by rw [and_bit1 _ _ hx, HT.out])], hb⟩, by simp [intOf]; omega⟩
      · obtain rfl : i = 16 := by omega
        go_wp2_with fail
        go_ret
        exact ⟨rfl, hb⟩

/-- The table of a variable. -/
def colN (v : Nat) : Nat := numOf (fun k => (k >>> (3 - v)) % 2 == 1) 16
theorem colN_lt (v : Nat) : colN v < 65536 := numOf_lt _ 16
theorem colN_bit (v : Nat) (hv : v < 4) (r : Nat → Bool) : (colN v).testBit (idx 4 0 r) = r v := by
  unfold colN
  rw [numOf_bit]
  simp only [idx_lt16 r, decide_true, Bool.true_and]
  have hv' : v = 0 ∨ v = 1 ∨ v = 2 ∨ v = 3 := by omega
  rcases hv' with rfl | rfl | rfl | rfl <;> simp only [idx, Nat.reduceAdd] <;> cases r 0 <;> cases r 1 <;> cases r 2 <;> cases r 3 <;> rfl
theorem col_bit (i v : Nat) (hi : i < 16) (hv : v < 4) (z : Int) (hz : z = ((i / 2 ^ (3 - v) : Nat) : Int)) : IntKind.u16.wrap (bits BinOp.and .i64 z 1) = ((if (i >>> (3 - v)) % 2 == 1 then 1 else 0 : Nat) : Int) := by
  subst hz
  have hv' : v = 0 ∨ v = 1 ∨ v = 2 ∨ v = 3 := by omega
  have hk' : i = 0 ∨ i = 1 ∨ i = 2 ∨ i = 3 ∨ i = 4 ∨ i = 5 ∨ i = 6 ∨ i = 7 ∨ i = 8 ∨ i = 9 ∨ i = 10 ∨ i = 11 ∨ i = 12 ∨ i = 13 ∨ i = 14 ∨ i = 15 := by omega
  rcases hk' with rfl | rfl | rfl | rfl | rfl | rfl | rfl | rfl | rfl | rfl | rfl | rfl | rfl | rfl | rfl | rfl <;> rcases hv' with rfl | rfl | rfl | rfl <;> decide
set_option maxRecDepth 100000 in
set_option maxHeartbeats 1000000 in
theorem column_any (v : Nat) (hv : v < 4) (w : World) :
    Calls Try.prog 47 #[.int .i64 v] w fun e w' => e = .returned (.int .u16 (colN v : Nat)) ∧ Below w.heap.size w w' := by
  obtain ⟨T, hT⟩ : ∃ T : Nat → Bool, T = fun k => (k >>> (3 - v)) % 2 == 1 := ⟨_, rfl⟩
  have e : colN v = numOf T 16 := by rw [hT]; rfl
  rw [e]
  have HT := Lib.hid hT
  clear e hT
  have hv' : v = 0 ∨ v = 1 ∨ v = 2 ∨ v = 3 := by omega
  rcases hv' with rfl | rfl | rfl | rfl
  · go_enter Try.func47, Try.ntmps47
    go_wp2_with fail
    go_loopw [3, 5] (fun o k wr => ∃ i : Nat, i ≤ 16 ∧ k = .int .i64 i ∧ o = .int .u16 (numOf T i : Nat) ∧ Below w.heap.size w wr) (fun _ k _ => 16 - (intOf k).toNat)
    case atStart => exact ⟨0, by omega, rfl, rfl, Below.refl _ _⟩
    case round =>
      obtain ⟨i, hi, rfl, rfl, hb⟩ := hrel
      by_cases hlt : i < 16
      · go_wp2_with fail
        exact ⟨⟨i + 1, by omega, by go_num, by rw [or_step T i hlt _ (by rw [col_bit i 0 hlt (by omega) _ (by simp), HT.out])], hb⟩, by simp [intOf]; omega⟩
      · obtain rfl : i = 16 := by omega
        go_wp2_with fail
        go_ret
        exact ⟨rfl, hb⟩
  · go_enter Try.func47, Try.ntmps47
    go_wp2_with fail
    go_loopw [3, 5] (fun o k wr => ∃ i : Nat, i ≤ 16 ∧ k = .int .i64 i ∧ o = .int .u16 (numOf T i : Nat) ∧ Below w.heap.size w wr) (fun _ k _ => 16 - (intOf k).toNat)
    case atStart => exact ⟨0, by omega, rfl, rfl, Below.refl _ _⟩
    case round =>
      obtain ⟨i, hi, rfl, rfl, hb⟩ := hrel
      by_cases hlt : i < 16
      · go_wp2_with fail
        exact ⟨⟨i + 1, by omega, by go_num, by rw [or_step T i hlt _ (by rw [col_bit i 1 hlt (by omega) _ (by simp), HT.out])], hb⟩, by simp [intOf]; omega⟩
      · obtain rfl : i = 16 := by omega
        go_wp2_with fail
        go_ret
        exact ⟨rfl, hb⟩
  · go_enter Try.func47, Try.ntmps47
    go_wp2_with fail
    go_loopw [3, 5] (fun o k wr => ∃ i : Nat, i ≤ 16 ∧ k = .int .i64 i ∧ o = .int .u16 (numOf T i : Nat) ∧ Below w.heap.size w wr) (fun _ k _ => 16 - (intOf k).toNat)
    case atStart => exact ⟨0, by omega, rfl, rfl, Below.refl _ _⟩
    case round =>
      obtain ⟨i, hi, rfl, rfl, hb⟩ := hrel
      by_cases hlt : i < 16
      · go_wp2_with fail
        exact ⟨⟨i + 1, by omega, by go_num, by rw [or_step T i hlt _ (by rw [col_bit i 2 hlt (by omega) _ (by simp), HT.out])], hb⟩, by simp [intOf]; omega⟩
      · obtain rfl : i = 16 := by omega
        go_wp2_with fail
        go_ret
        exact ⟨rfl, hb⟩
  · go_enter Try.func47, Try.ntmps47
    go_wp2_with fail
    go_loopw [3, 5] (fun o k wr => ∃ i : Nat, i ≤ 16 ∧ k = .int .i64 i ∧ o = .int .u16 (numOf T i : Nat) ∧ Below w.heap.size w wr) (fun _ k _ => 16 - (intOf k).toNat)
    case atStart => exact ⟨0, by omega, rfl, rfl, Below.refl _ _⟩
    case round =>
      obtain ⟨i, hi, rfl, rfl, hb⟩ := hrel
      by_cases hlt : i < 16
      · go_wp2_with fail
        exact ⟨⟨i + 1, by omega, by go_num, by rw [or_step T i hlt _ (by rw [col_bit i 3 hlt (by omega) _ (by simp), HT.out])], hb⟩, by simp [intOf]; omega⟩
      · obtain rfl : i = 16 := by omega
        go_wp2_with fail
        go_ret
        exact ⟨rfl, hb⟩
end Go.Proofs.Ytbceacihkdmgkaa
