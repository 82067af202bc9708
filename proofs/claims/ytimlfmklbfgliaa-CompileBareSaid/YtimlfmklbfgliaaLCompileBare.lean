import Derived.Test.YtimlfmklbfgliaaVa
import Derived.Test.YtimlfmklbfgliaaRdt
set_option linter.unusedVariables false
namespace Go.Proofs.Ytimlfmklbfgliaa
open Go.RowKit Mq

attribute [local go_sem high] max2_ii min2_ii
theorem bare_row (c : Int) (t : Nat) (ht : t < 16) : edRow (bareE c) t = ⟨true, 100, max 1 (min c 1000), t⟩ := by
  unfold edRow edTake
  rw [edRow_and (bareE c) t ht, takeL_shape (by omega) (by omega)]
  simp only [bareE, edgeL, shapeL, outL]
  congr 1
  simp
  rw [w64_id (by unfold is64; omega)]
theorem bare_polOk (c : Int) (n : Nat) (hc : (n : Int) = max 1 (min c 1000)) : PolOk ns6 (edT (bareE c)) (bareL n 19) := by
  have h := polP_ok (most := 4096) (T := edT (bareE c)) (ns := [no, yes]) wf_start (by decide)
  rw [bare_at 4096 (.inr rfl) hc] at h
  exact h
theorem bareL_one (n j : Nat) (h5 : 5 ≤ j) (hj : j < 24) : ∃ u, (bareL n 19)[j]? = some u ∧ (u = 0 ∨ u = 1) := by
  refine ⟨_, bareL_at n j h5 hj, ?_⟩
  split <;> simp
theorem bareL_low (n : Nat) : ∀ k, k < 5 → (bareL n 19)[k]? = some (k + 1) := by
  intro k hk
  have : k = 0 ∨ k = 1 ∨ k = 2 ∨ k = 3 ∨ k = 4 := by omega
  rcases this with rfl | rfl | rfl | rfl | rfl <;> rfl
theorem bare_mk : ∀ k, k < 4 → mk 99 ns6 ⟨3 - k, 0, 1⟩ = (ns6, k + 2, 0) := by decide
set_option maxRecDepth 100000 in
set_option maxHeartbeats 4000000 in
theorem walk_CompileBare (c : Int) (tags : Nat) (w : World) (hc : is64 c) (ht : tags < 256) :
    Calls Try.prog 5 #[.int .i64 c, .int .u8 tags] w fun e w' => e = .returned (.bool true) ∧ Below w.heap.size w w' := by
  obtain ⟨n, hn⟩ : ∃ n : Nat, (n : Int) = max 1 (min c 1000) := ⟨(max 1 (min c 1000)).toNat, by omega⟩
  have HP := Lib.hid (bare_at 99 (.inl rfl) (c := c) (n := n) hn)
  have HO := Lib.hid (bare_polOk c n hn)
  have HR := Lib.hid (bare_row c (tags % 16) (by omega))
  have HT := Lib.hid ht
  have HC := Lib.hid hc
  have HN := Lib.hid hn
  clear hn ht hc
  go_enter Try.func5, Try.ntmps5
  go_wp2_with fail
  refine (awake14 w).mono ?_
  rintro en w0 ⟨rfl, hb⟩
  have B0 := Lib.hid hb
  clear hb
  go_wp2_with fail
  refine (of_any w0 99 99 (by decide)).mono ?_
  rintro e w1 ⟨a, rfl, hA, hk, hle⟩
  have A1 := Lib.hid hA; have K1 := Lib.hid hk; clear hA hk hle
  go_wp2_with fail
  refine (compOf_any A1.out (bareE c) (bareE_ok w1 HC.out)).mono ?_
  rw [HP.out]
  rintro e w2 ⟨rfl, hA, hk⟩
  have K2 := Lib.hid hk; have A2 := Lib.hid hA; clear hA hk
  have he : errv 0 = .nilIface := rfl
  simp only
  rw [he]
  clear he
  have HL := Lib.hid (bareL_low n)
  have HL2 := Lib.hid (bareL_one n)
  generalize bareL n 19 = L at *
  have HLen : L.length = 24 := HO.out.len
  go_upto_region 5 with (refine wpList_store_rowTo rfl 33 _ _ rfl rfl w2.heap.size (outC L) rfl rfl _ _ (gb_new _ _) (by rw [outC_size]; kernel_rfl) (by rw [outC_size]; rfl) (outC_one L) ?_)
  have hb := setRow_heap _ w2.heap.size _ (outC L) _ _ (gb_new w2 (.cells (outC []) 33))
  have BB : Hid (Below w2.heap.size w2 ((w2.alloc (.cells (outC []) 33)).setRow w2.heap.size (outC L))) := Lib.hid (gb_setRow (gb_alloc (Below.refl _ _) _) (Nat.le_refl _) _)
  change Code.wp _ _ _ _ ((w2.alloc (.cells (outC []) 33)).setRow w2.heap.size (outC L))
  generalize (w2.alloc (.cells (outC []) 33)).setRow w2.heap.size (outC L) = w3 at *
  have P3 := Lib.hid hb
  have A3 := Lib.hid (A2.out.below_more BB.out)
  have BW : Hid (Keep (fun k => k < w0.heap.size) w0 w3) := Lib.hid ((K1.out.trans K2.out).trans (Keep.below BB.out))
  have d0 := (gb_cell hb 0).trans (outC_get L (HL.out 0 (by omega)) (by omega))
  clear hb HP
  go_wp2_with fail
  go_loopw [8] (fun j wr => ∃ k : Nat, j = .int .i64 k ∧ k ≤ 4 ∧ Ar wr (fun q => q < w0.heap.size ∨ w2.heap.size ≤ q ∧ q < w3.heap.size) a ns6 99 ∧ Keep (fun q => q < w0.heap.size ∨ w2.heap.size ≤ q ∧ q < w3.heap.size) w3 wr) (fun j _ => 4 - (intOf j).toNat)
  case atStart => exact ⟨0, rfl, by omega, A3.out, Keep.refl _ _⟩
  case round =>
    obtain ⟨k, rfl, hk, hA, hK⟩ := hrel
    have R1 := Lib.hid hA; have R2 := Lib.hid hK; clear hA hK
    have P4 := Lib.hid ((R2.out.block w2.heap.size (.inr ⟨Nat.le_refl _, gb_lt P3.out⟩) (gb_lt P3.out)).trans P3.out)
    by_cases hlt : k < 4
    · obtain ⟨d, hd⟩ : ∃ d, d = 3 - k := ⟨_, rfl⟩
      obtain ⟨g, hg⟩ : ∃ g, g = 1 + k := ⟨_, rfl⟩
      have hs : wrap64 (3 - (k : Int)) = (d : Int) := by unfold wrap64; omega
      have hs2 : wrap64 (1 + (k : Int)) = (g : Int) := by unfold wrap64; omega
      have HV := Lib.hid (variable_any R1.out d (by omega))
      have HD := Lib.hid hd
      have HG := Lib.hid hg
      have HD2 := Lib.hid (show mk 99 ns6 ⟨d, 0, 1⟩ = (ns6, k + 2, 0) by rw [hd]; exact bare_mk k hlt)
      clear hd hg d0
      go_wp2_with fail
      rw [show (3 : Int) - (k : Int) = (d : Int) by have := HD.out; omega]
      refine HV.out.mono ?_
      rw [HD2.out]
      rintro e w4 ⟨rfl, hA, hk4⟩
      have A4 := Lib.hid hA; have K4 := Lib.hid hk4; clear hA hk4
      have P5 := (K4.out.block w2.heap.size (.inr ⟨Nat.le_refl _, gb_lt P3.out⟩) (gb_lt P4.out)).trans P4.out
      have he : errv 0 = .nilIface := rfl
      simp only
      rw [he]
      clear he
      have d1 := (gb_cell P5 (1 + k)).trans (outC_get L (HL.out (1 + k) (by omega)) (by omega))
      rw [show 1 + k + 1 = k + 2 by omega] at d1
      clear P5
      go_wp2_with fail
      go_roundw
      case rel => exact ⟨k + 1, by go_num, by omega, A4.out, R2.out.trans K4.out⟩
      case measure => simp [intOf] <;> omega
    · clear d0
      have hk' : k = 4 := by omega
      subst hk'
      have A4 := Lib.hid R1.out
      have BW2 : Hid (Below w.heap.size w wr) := Lib.hid (gb_trans B0.out (below_of_keep (BW.out.trans (R2.out.mono fun q hq => .inl hq))))
      clear R1 R2
      obtain ⟨W1, hW1⟩ : ∃ W1, W1 = wr := ⟨_, rfl⟩
      subst hW1
      go_wp2_with fail
      go_loopw [11] (fun j x => ∃ k : Nat, j = .int .i64 k ∧ 5 ≤ k ∧ k ≤ 24 ∧ x = W1) (fun j _ => 24 - (intOf j).toNat)
      case atStart => exact ⟨5, rfl, by omega, by omega, rfl⟩
      case round =>
        obtain ⟨k, rfl, h5, hk, rfl⟩ := hrel
        by_cases hlt : k < 24
        · obtain ⟨u, hu, h01⟩ := HL2.out k h5 hlt
          have d1 := (gb_cell P4.out k).trans (outC_get L hu hlt)
          rcases h01 with rfl | rfl
          · rw [show ((0 : Nat) : Int) = 0 from rfl] at d1
            go_wp2_with fail
            go_roundw
            case rel => exact ⟨k + 1, by go_num, by omega, by omega, trivial⟩
            case measure => simp [intOf] <;> omega
          · rw [show ((1 : Nat) : Int) = 1 from rfl] at d1
            go_wp2_with fail
            go_roundw
            case rel => exact ⟨k + 1, by go_num, by omega, by omega, trivial⟩
            case measure => simp [intOf] <;> omega
        · have hk' : k = 24 := by omega
          subst hk'
          have hrem : Int.tmod (tags : Int) 16 = ((tags % 16 : Nat) : Int) := by rw [Int.tmod_eq_emod_of_nonneg (by omega)]; omega
          have hm : tags % 16 < 256 := by omega
          have HK := Lib.hid (compTake_any A4.out (bareE c) L HO.out ⟨true, 0, 0, tags % 16⟩ hm (by simp) (by simp) (by simp [is64]))
          rw [show compTake (edRow (bareE c) (tags % 16 % 16)) ⟨true, 0, 0, tags % 16⟩ = ⟨true, 100, max 1 (min c 1000), tags % 16⟩ by rw [Nat.mod_mod, HR.out]; simp [compTake]] at HK
          go_wp2_with (refine wpList_load_row rfl 33 _ rfl w2.heap.size rfl 33 (outC L) (0, 0) _ P4.out Try.underlying33 rfl (by rw [outC_size]; kernel_rfl) ?_)
          refine HK.out.mono ?_
          rintro e w5 ⟨rfl, hb⟩
          have B5 := Lib.hid (gb_trans BW2.out hb)
          clear hb
          unfold attv
          go_wp2_with fail
          go_ret
          exact ⟨ret_bool (by simp), gb_alloc B5.out _⟩
end Go.Proofs.Ytimlfmklbfgliaa
