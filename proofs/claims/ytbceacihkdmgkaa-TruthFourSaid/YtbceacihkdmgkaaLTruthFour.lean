import Derived.Test.YtbceacihkdmgkaaAwk4
import Derived.Test.YtbceacihkdmgkaaCol
set_option linter.unusedVariables false
namespace Go.Proofs.Ytbceacihkdmgkaa
open Go.RowKit Mq

set_option maxRecDepth 100000 in
set_option maxHeartbeats 1000000 in
theorem walk_TruthFour (x : Nat) (hx : x < 65536) (w : World) : Calls Try.prog 10 #[.int .u16 x] w fun e w' => e = .returned (.bool true) ∧ Below w.heap.size w w' := by
  have hmk : ∀ w, (Instr.makeSlice 49 (.int .i64 16) (.int .i64 16)).run Try.prog w = .ok (.slice (some ⟨w.heap.size, 0, none⟩) 16 16) (w.alloc (.cells (madeCells #[.bool false] 16) 4)) :=
    fun w => run_make_row' (P := Try.prog) 49 4 (.bool false) 1 Try.underlying49 bool_info rfl .i64 .i64 16 (by omega) (by omega) w
  go_enter Try.func10, Try.ntmps10
  go_wp2_with fail
  refine (awake4 w).mono ?_
  rintro e w1 ⟨rfl, hb⟩
  have B1 := Lib.hid hb; clear hb
  go_wp2_with fail
  refine (of_any w1 100 100 (by decide)).mono ?_
  rintro e w2 ⟨a, rfl, hA, hk, hle⟩
  have A2 := Lib.hid hA; have K2 := Lib.hid hk; clear hA hk hle
  go_wp2_with fail
  clear hmk
  have hR := World.rowIs_made w2 (.bool false) 16 4
  have hA := A2.out.alloc (.cells (madeCells #[.bool false] 16) 4)
  have hK := K2.out.alloc (.cells (madeCells #[.bool false] 16) 4)
  generalize w2.alloc (.cells (madeCells #[.bool false] 16) 4) = W at *
  have hle := K2.out.size
  generalize w2.heap.size = b at *
  have R0 := Lib.hid hR; have A3 := Lib.hid hA; have K3 := Lib.hid hK
  clear hR hA hK
  go_loopw [14] (fun k wr => ∃ i : Nat, k = .int .i64 i ∧ i ≤ 16 ∧ Keep (SzY b) W wr ∧ wr.rowIs b 4 16 (fun j => .bool (decide (j < i) && x.testBit j))) (fun k _ => 16 - (intOf k).toNat)
  case atStart => exact ⟨0, rfl, by omega, Keep.refl _ _, R0.out.congr fun j hj => by simp⟩
  case round =>
    obtain ⟨i, rfl, hi, hk, hr⟩ := hrel
    have R := Lib.hid hr; have KK := Lib.hid hk; clear hr hk
    by_cases hlt : i < 16
    · have k0 := R.out.cell hlt
      have e0 := R.out.frozen i
      go_wp2_with fail
      go_roundw
      case rel =>
        refine ⟨i + 1, by go_num, by omega, KK.out.trans (keep_setCell (p := ⟨b, i, none⟩) (fun h => h rfl) _), (R.out.set i _).congr fun j hj => ?_⟩
        by_cases e : j = i
        · subst e
          rw [if_pos rfl, and_bit1 x j hx]
          cases x.testBit j <;> simp
        · rw [if_neg e]
          have : decide (j < i) = decide (j < i + 1) := by rw [decide_eq_decide]; omega
          rw [this]
      case measure => simp [intOf] <;> omega
    · have hi' : i = 16 := by omega
      subst hi'
      have A4 := Lib.hid (A3.out.keepY (mb := b) (.inr rfl) KK.out)
      have K4 := Lib.hid (K3.out.trans (KK.out.mono fun k (hk : k < w1.heap.size) => show k ≠ b by omega))
      go_wp2_with fail
      refine (tbuild_any A4.out (rb := b) (.inr rfl) 4 16 16 rfl (by omega) (fun j => x.testBit j) (by omega) (by omega) (fun j hj => by rw [Nat.zero_add, R.out.cell hj]; simp [hj]) (by simp)).mono ?_
      rintro e w5 ⟨ns, f, rfl, hd, hA, hk⟩
      have T1 := Lib.hid (Tab.of_built hx hd)
      have L1 : Hid (ns.length ≤ 17) := Lib.hid (by have := hd.few; simp at this; omega)
      have A5 := Lib.hid hA; have K5 := Lib.hid (K4.out.trans (hk.mono fun k hk => .inl hk))
      clear hA hk hd
      go_wp2_with fail
      refine (build_any A5.out x hx (by have := L1.out; omega)).mono ?_
      rintro e w6 ⟨ns6, g, rfl, hd, hA, hk⟩
      have T2 := Lib.hid (Tab.of_built hx hd)
      have e : f = g := Tab.same hd.wf (T1.out.ext A5.out.wf hd.ext) T2.out
      subst e
      have A6 := Lib.hid hA; have K6 := Lib.hid (K5.out.trans (hk.mono fun k hk => .inl hk))
      clear hA hk hd
      go_wp2_with fail
      refine (table_any A6.out f T2.out.lt).mono ?_
      rintro e w7 ⟨rfl, hb⟩
      have B7 := Lib.hid hb; clear hb
      go_wp2_with fail
      refine (bits_any w7 _).mono ?_
      rintro e w8 ⟨rfl, hb⟩
      rw [T2.out.num]
      have B8 := Lib.hid (below_trans B7.out hb); clear hb
      go_wp2_with fail
      go_ret
      exact ⟨rfl, below_trans B1.out (below_of_keep (K6.out.trans (Keep.below B8.out)))⟩
end Go.Proofs.Ytbceacihkdmgkaa
