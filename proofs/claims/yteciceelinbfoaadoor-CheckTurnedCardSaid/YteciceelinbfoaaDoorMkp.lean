import Derived.Test.YteciceelinbfoaaDoorCf
import Derived.Test.YteciceelinbfoaaDoorRl
set_option linter.unusedVariables false
namespace Go.Proofs.YteciceelinbfoaaDoor
open Go.RowKit Mq

theorem make_cell (w : World) (n : Nat) : ((w.alloc (.cells #[.int .u32 0, .int .i64 0] 66)).alloc (.cells #[.int .i64 0, .int .i64 8, .int .i64 16, .int .i64 24, .int .i64 32, .int .i64 9, .int .i64 17, .int .i64 30] 3)).cell? ⟨w.heap.size + 1, n % 8, none⟩ = some (.int .i64 (mkBits n)) := by
  have h := gb_new (w.alloc (.cells #[.int .u32 0, .int .i64 0] 66)) (.cells #[.int .i64 0, .int .i64 8, .int .i64 16, .int .i64 24, .int .i64 32, .int .i64 9, .int .i64 17, .int .i64 30] 3)
  simp only [World.size_alloc] at h
  rw [gb_cell h]
  unfold mkBits
  have : n % 8 < 8 := Nat.mod_lt _ (by omega)
  generalize n % 8 = r at *
  have : r = 0 ∨ r = 1 ∨ r = 2 ∨ r = 3 ∨ r = 4 ∨ r = 5 ∨ r = 6 ∨ r = 7 := by omega
  rcases this with rfl | rfl | rfl | rfl | rfl | rfl | rfl | rfl <;> rfl
def mkP (n : Nat) : Pfx := ⟨clrs (mkAddr n) (mkBits n) (32 - mkBits n), (mkBits n : Nat)⟩
theorem mkP_ok {n : Nat} (h : n < 256) : (mkP n).Ok := ⟨clrs_lt (mkAddr_lt h) _, by have := mkBits_le n; unfold mkP is64; simp only; omega⟩
theorem clr_val {a m : Nat} (ha : a < 4294967296) (hm : m ≤ 31) : bits BinOp.andNot IntKind.u32 (a : Int) ((2 : Int) ^ m % 4294967296) = ((a &&& (4294967295 - 2 ^ m) : Nat) : Int) := by
  have h1 : 2 ^ m ≤ 2 ^ 31 := Nat.pow_le_pow_right (by omega) hm
  have e : ((2 : Int) ^ m) = ((2 ^ m : Nat) : Int) := by simp
  rw [e]
  generalize (2 ^ m : Nat) = q at *
  rw [show ((q : Int) % 4294967296) = (q : Int) by omega]
  exact u32_andNot_nat a q ha (by omega)
set_option maxRecDepth 100000 in
set_option maxHeartbeats 1000000 in
theorem make_any (n : Nat) (hn : n < 256) (w : World) : Calls Tryd.prog 22 #[.int .u8 n] w fun e w' => e = .returned (pfxv (mkP n)) ∧ Below w.heap.size w w' := by
  have hu : IntKind.u8.signed = false := rfl
  have hc := make_cell w n
  have ha : (167772160 + (n : Int) / 64 * 65536 + (n : Int) / 16 % 4 * 256 + (n : Int) / 8 % 2) = ((mkAddr n : Nat) : Int) := by unfold mkAddr; omega
  have hbl := mkBits_le n
  have hal := mkAddr_lt hn
  go_enter Tryd.func22, Tryd.ntmps22
  go_wp2_with fail
  clear hc ha
  have b0 := gb_old _ (.cells #[.int .u32 ((mkAddr n : Nat) : Int), .int .i64 ((mkBits n : Nat) : Int)] 66) (gb_old _ (.cells #[.int .i64 0, .int .i64 8, .int .i64 16, .int .i64 24, .int .i64 32, .int .i64 9, .int .i64 17, .int .i64 30] 3) (gb_new w (.cells #[.int .u32 0, .int .i64 0] 66)))
  have b2 := gb_new ((w.alloc (.cells #[.int .u32 0, .int .i64 0] 66)).alloc (.cells #[.int .i64 0, .int .i64 8, .int .i64 16, .int .i64 24, .int .i64 32, .int .i64 9, .int .i64 17, .int .i64 30] 3)) (.cells #[.int .u32 ((mkAddr n : Nat) : Int), .int .i64 ((mkBits n : Nat) : Int)] 66)
  have hB := gb_alloc (gb_alloc (gb_alloc (Below.refl w.heap.size w) (.cells #[.int .u32 0, .int .i64 0] 66)) (.cells #[.int .i64 0, .int .i64 8, .int .i64 16, .int .i64 24, .int .i64 32, .int .i64 9, .int .i64 17, .int .i64 30] 3)) (.cells #[.int .u32 ((mkAddr n : Nat) : Int), .int .i64 ((mkBits n : Nat) : Int)] 66)
  simp only [World.size_alloc] at b2
  generalize (((w.alloc (.cells #[.int .u32 0, .int .i64 0] 66)).alloc (.cells #[.int .i64 0, .int .i64 8, .int .i64 16, .int .i64 24, .int .i64 32, .int .i64 9, .int .i64 17, .int .i64 30] 3)).alloc (.cells #[.int .u32 ((mkAddr n : Nat) : Int), .int .i64 ((mkBits n : Nat) : Int)] 66)) = W at *
  have B0 := Lib.hid b0; have B2 := Lib.hid b2; have BB := Lib.hid hB
  clear b0 b2 hB
  obtain ⟨bt, hbt⟩ : ∃ b, b = mkBits n := ⟨_, rfl⟩
  obtain ⟨ad, had⟩ : ∃ a, a = mkAddr n := ⟨_, rfl⟩
  have HP : Hid (pfxv (mkP n) = .agg #[.int .u32 ((clrs ad bt (32 - bt) : Nat) : Int), .int .i64 (bt : Int)]) := Lib.hid (by rw [hbt, had]; rfl)
  rw [← hbt] at B2 hbl ⊢
  rw [← had] at B2 hal
  try rw [← had]
  clear hbt had
  go_loopw [5] (fun k wr => ∃ i : Nat, k = .int .i64 ((bt + i : Nat) : Int) ∧ bt + i ≤ 32 ∧ wr.heap[w.heap.size]? = some (.cells #[.int .u32 0, .int .i64 0] 66 (0, 0)) ∧ wr.heap[w.heap.size + 1 + 1]? = some (.cells #[.int .u32 ((clrs ad bt i : Nat) : Int), .int .i64 (bt : Int)] 66 (0, 0)) ∧ Below w.heap.size w wr) (fun k _ => 32 - (intOf k).toNat)
  case atStart => exact ⟨0, by simp, by omega, B0.out, B2.out, BB.out⟩
  case round =>
    obtain ⟨i, rfl, hi, h0, h2, hb⟩ := hrel
    have B := Lib.hid hb; have H0 := Lib.hid h0; have H2 := Lib.hid h2
    have s0 := gb_lt h0
    have s2 := gb_lt h2
    obtain ⟨y0, y1⟩ := gb_cells2 h0
    obtain ⟨x0, x1⟩ := gb_cells2 h2
    have f0 := gb_free h2 0
    have g0 := gb_free h0 0
    have g1 := gb_free h0 1
    clear h0 h2 hb
    by_cases hlt : bt + i < 32
    · go_upto_region 6 with fail
      have hv := clr_val (clrs_lt (b := bt) hal i) (show 31 - (bt + i) ≤ 31 by omega)
      have HV := Lib.hid hv
      clear hv
      go_region
      all_goals (go_wp2_with fail; go_roundw)
      all_goals first
        | (case rel =>
            rw [HV.out]
            exact ⟨i + 1, by go_num, by omega, gb_far H0.out (by simp <;> omega) _, by have := gb_set H2.out 0 (.int .u32 ((clrs ad bt i &&& (4294967295 - 2 ^ (31 - (bt + i))) : Nat) : Int)); exact this, (B.out.setCell (by simp <;> omega) _).drew⟩)
        | (case measure => (simp [intOf] <;> omega))
    · have hi' : i = 32 - bt := by omega
      subst hi'
      go_wp2_with fail
      refine bodyPost_ret (v := .agg #[.int .u32 ((clrs ad bt (32 - bt) : Nat) : Int), .int .i64 (bt : Int)]) (by simp [results, Tryd.results22, go_sem, *]) rfl ⟨by rw [HP.out], ?_⟩
      repeat (refine Below.setCell ?_ (by simp <;> omega) _)
      exact B.out
end Go.Proofs.YteciceelinbfoaaDoor
