import Derived.Test.YtbceacihkdmgkaaTt
set_option linter.unusedVariables false
namespace Go.Proofs.Ytbceacihkdmgkaa
open Go.RowKit Mq

/-- How many of the first k rows say yes. -/
def cnt (T : Nat → Bool) : Nat → Nat
  | 0 => 0
  | k + 1 => cnt T k + if T k then 1 else 0
theorem cnt_le (T : Nat → Bool) (k : Nat) : cnt T k ≤ k := by
  induction k with
  | zero => simp [cnt]
  | succ k ih => simp only [cnt]; split <;> omega
theorem cnt_congr {T U : Nat → Bool} (k : Nat) (h : ∀ i, i < k → T i = U i) : cnt T k = cnt U k := by
  induction k with
  | zero => rfl
  | succ k ih => simp only [cnt]; rw [ih (fun i hi => h i (by omega)), h k (by omega)]

set_option maxRecDepth 100000 in
theorem tcount_any {w : World} {X : Nat → Prop} {a : Nat} {ns : List Nd} {most : Nat} (h : Ar w X a ns most) (f : Nat) (hf : f < ns.length) (vars : Int) (n m : Nat) (hn : max 0 (min vars 10) = (n : Int)) (hm : m = 2 ^ n) :
    Calls Try.prog 39 #[.pointer (some ⟨a, 0, none⟩), .int .i64 f, .int .i64 vars] w fun e w' => e = .returned (.int .i64 (cnt (fun i => ev ns (rowN n i) f) m : Nat)) ∧ Below w.heap.size w w' := by
  have hm2 : m ≤ 1024 := by
    have : 2 ^ n ≤ 2 ^ 10 := Nat.pow_le_pow_right (by omega) (by omega)
    omega
  have H := Lib.hid (ttable_any h f hf vars n m hn hm)
  generalize (fun i => ev ns (rowN n i) f) = T at *
  clear h hm hn
  go_enter Try.func39, Try.ntmps39
  go_wp2_with fail
  refine H.out.mono ?_
  rintro e w1 ⟨b, rfl, hb, hB, hR⟩
  have R := Lib.hid hR
  have B := Lib.hid hB
  clear hR hB
  go_wp2_with fail
  go_loopw [7, 15] (fun c k wr => ∃ i : Nat, k = .int .i64 i ∧ c = .int .i64 (cnt T i : Nat) ∧ i ≤ m ∧ wr = w1) (fun _ k _ => m - (intOf k).toNat)
  case atStart => exact ⟨0, rfl, rfl, by omega, rfl⟩
  case round =>
    obtain ⟨i, rfl, rfl, hi, rfl⟩ := hrel
    have hle := cnt_le T i
    by_cases hlt : i < m
    · have c0 := R.out.cell hlt
      cases hT : T i
      · rw [hT] at c0
        have hn : Hid (cnt T (i + 1) = cnt T i) := Lib.hid (by simp [cnt, hT])
        clear hT
        go_wp2_with fail
        exact ⟨⟨i + 1, by go_num, by rw [hn.out], by omega, trivial⟩, by simp [intOf] <;> omega⟩
      · rw [hT] at c0
        have hn : Hid (cnt T (i + 1) = cnt T i + 1) := Lib.hid (by simp [cnt, hT])
        clear hT
        go_wp2_with fail
        exact ⟨⟨i + 1, by go_num, by rw [hn.out]; simp, by omega, trivial⟩, by simp [intOf] <;> omega⟩
    · obtain rfl : i = m := by omega
      go_wp2_with fail
      go_ret
      exact ⟨rfl, B.out⟩
end Go.Proofs.Ytbceacihkdmgkaa
