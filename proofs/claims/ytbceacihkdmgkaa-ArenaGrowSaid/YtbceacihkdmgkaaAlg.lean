import Derived.Test.YtbceacihkdmgkaaAwk2
set_option linter.unusedVariables false
namespace Go.Proofs.Ytbceacihkdmgkaa
open Go.RowKit Mq

/-- A diagram whose table is a number's bits. -/
structure Tab (ns : List Nd) (k b : Nat) : Prop where
  b_lt : b < 65536
  lt : k < ns.length
  ev : ∀ r, ev ns r k = b.testBit (idx 4 0 r)
theorem Tab.of_built {ns ns' : List Nd} {b k : Nat} (hb : b < 65536) (h : Built ns 4 0 (fun i => b.testBit i) ns' k) : Tab ns' k b := ⟨hb, h.lt, h.ev⟩
theorem Tab.ext {ns ns' : List Nd} {k b : Nat} (h : Tab ns k b) (W : WF ns) (x : Ext ns ns') : Tab ns' k b := ⟨h.b_lt, Nat.lt_of_lt_of_le h.lt x.length, fun r => by rw [x.ev W r k h.lt]; exact h.ev r⟩
theorem Tab.dep {ns : List Nd} {k b : Nat} (h : Tab ns k b) : Dep 4 ns k := Dep.of_fun h.ev fun r s e => by rw [idx_dep 4 0 r s (fun u hu => e u (by omega))]
theorem Tab.num {ns : List Nd} {k b : Nat} (h : Tab ns k b) : numOf (fun i => Mq.ev ns (row4 i) k) 16 = b := num_table h.b_lt h.ev
theorem Tab.same {ns : List Nd} {k j b : Nat} (W : WF ns) (h : Tab ns k b) (g : Tab ns j b) : k = j := canon W h.lt g.lt fun r => by rw [h.ev, g.ev]
theorem idx_lt16 (r : Nat → Bool) : idx 4 0 r < 16 := idx_lt 4 0 r
theorem Tab.zero {ns : List Nd} (W : WF ns) : Tab ns 0 0 := ⟨by omega, by have := W.two; omega, fun r => by rw [ev_zero]; simp⟩
theorem ones_bit (i : Nat) (hi : i < 16) : (65535 : Nat).testBit i = true := by
  rw [show (65535 : Nat) = 2 ^ 16 - 1 from rfl, Nat.testBit_two_pow_sub_one]; simp [hi]
theorem Tab.one {ns : List Nd} (W : WF ns) : Tab ns 1 65535 := ⟨by omega, by have := W.two; omega, fun r => by rw [ev_one, ones_bit _ (idx_lt16 r)]⟩
theorem and_lt {x y : Nat} (hx : x < 65536) : x &&& y < 65536 := Nat.lt_of_le_of_lt Nat.and_le_left hx
theorem or_lt {x y : Nat} (hx : x < 65536) (hy : y < 65536) : x ||| y < 65536 := Nat.or_lt_two_pow (n := 16) hx hy
theorem xor_lt {x y : Nat} (hx : x < 65536) (hy : y < 65536) : x ^^^ y < 65536 := Nat.xor_lt_two_pow (n := 16) hx hy
theorem not_bit {x : Nat} (hx : x < 65536) (i : Nat) (hi : i < 16) : (65535 - x).testBit i = !x.testBit i := by
  have := Nat.testBit_two_pow_sub_succ (x := x) (n := 16) hx i
  rw [show 2 ^ 16 - (x + 1) = 65535 - x by omega] at this
  rw [this]; simp [hi]
theorem ite_lt {x y z : Nat} (hx : x < 65536) (hy : y < 65536) (hz : z < 65536) : (x &&& y) ||| ((65535 - x) &&& z) < 65536 := or_lt (and_lt hx) (and_lt (by omega))
theorem Tab.ite {ns ns' : List Nd} {n v f g h k x y z : Nat} (hd : Dia ns n v (iteF ns f g h) ns' k) (T1 : Tab ns f x) (T2 : Tab ns g y) (T3 : Tab ns h z) : Tab ns' k ((x &&& y) ||| ((65535 - x) &&& z)) :=
  ⟨ite_lt T1.b_lt T2.b_lt T3.b_lt, hd.lt, fun r => by
    rw [hd.ev]
    simp only [iteF, T1.ev, T2.ev, T3.ev, Nat.testBit_or, Nat.testBit_and, not_bit T1.b_lt _ (idx_lt16 r)]
    cases x.testBit (idx 4 0 r) <;> simp⟩
theorem Tab.fn {ns ns' : List Nd} {n v k b : Nat} {F : (Nat → Bool) → Bool} (hd : Dia ns n v F ns' k) (hb : b < 65536) (h : ∀ r, F r = b.testBit (idx 4 0 r)) : Tab ns' k b := ⟨hb, hd.lt, fun r => by rw [hd.ev, h]⟩
/-- The words of the program. -/
theorem u16_not (x : Nat) (hx : x < 65536) : bits BinOp.xor .u16 IntKind.u16.max (x : Int) = ((65535 - x : Nat) : Int) := by
  have h := u16_xor_nat 65535 x (by omega) hx
  rw [show ((65535 : Nat) : Int) = IntKind.u16.max from rfl] at h
  rw [h]
  congr 1
  apply Nat.eq_of_testBit_eq
  intro i
  rw [Nat.testBit_xor]
  by_cases hi : i < 16
  · rw [ones_bit i hi, not_bit hx i hi]; cases x.testBit i <;> rfl
  · have h2 : 2 ^ 16 ≤ 2 ^ i := Nat.pow_le_pow_right (by omega) (by omega)
    rw [Nat.testBit_lt_two_pow (Nat.lt_of_lt_of_le hx h2), Nat.testBit_lt_two_pow (show 65535 < 2 ^ i by omega), Nat.testBit_lt_two_pow (show 65535 - x < 2 ^ i by omega)]; rfl
theorem ite_u16 (x y z : Nat) (hx : x < 65536) (hy : y < 65536) (hz : z < 65536) :
    bits BinOp.or .u16 (bits BinOp.and .u16 (x : Int) (y : Int)) (bits BinOp.and .u16 (bits BinOp.xor .u16 IntKind.u16.max (x : Int)) (z : Int)) = (((x &&& y) ||| ((65535 - x) &&& z) : Nat) : Int) := by
  rw [u16_not x hx, u16_and_nat x y hx hy, u16_and_nat (65535 - x) z (by omega) hz, u16_or_nat _ _ (and_lt hx) (and_lt (by omega))]
end Go.Proofs.Ytbceacihkdmgkaa
