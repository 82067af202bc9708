import Derived.Test.YtbceacihkdmgkaaDoorAwk4
import Derived.Test.YtbceacihkdmgkaaDoorNum
import Derived.Test.YtbceacihkdmgkaaDoorRdk
set_option linter.unusedVariables false
namespace Go.Proofs.YtbceacihkdmgkaaDoor
open Go.RowKit Mq

set_option maxRecDepth 100000 in
set_option maxHeartbeats 1000000 in
/-- truth.Build, of rows that are not as many as the variables have values. -/
theorem tbuild_bad (a : Nat) (vars : Int) (A : Option Addr) (len cap : Nat) (w : World) (hl : len ≤ 9223372036854775807) (bad : vars < 0 ∨ 10 < vars ∨ len ≠ 2 ^ vars.toNat) :
    Calls Tryd.prog 20 #[.pointer (some ⟨a, 0, none⟩), .int .i64 vars, .slice A len cap] w fun e w' => e = .returned (.tuple #[.int .i64 0, .iface 36 (.int .i64 10)]) ∧ w = w' := by
  by_cases b1 : vars < 0
  · clear bad
    go_enter Tryd.func20, Tryd.ntmps20
    go_wp2_with fail
    go_ret2
    exact ⟨rfl, rfl⟩
  · by_cases b2 : 10 < vars
    · clear bad
      go_enter Tryd.func20, Tryd.ntmps20
      go_wp2_with fail
      go_ret2
      exact ⟨rfl, rfl⟩
    · obtain ⟨n, rfl⟩ := Int.eq_ofNat_of_zero_le (show 0 ≤ vars by omega)
      obtain ⟨m, hm⟩ : ∃ m, m = 2 ^ n := ⟨_, rfl⟩
      have hsh : (1 : Int) * 2 ^ n = (m : Int) := by rw [hm]; simp
      have hm2 : m ≤ 1024 := by
        have : 2 ^ n ≤ 2 ^ 10 := Nat.pow_le_pow_right (by omega) (by omega)
        omega
      have hne : ((len : Int) != (m : Int)) = true := by
        rw [bne_iff_ne]
        simp only [Int.toNat_natCast] at bad
        omega
      clear bad hm
      go_enter Tryd.func20, Tryd.ntmps20
      go_wp2_with fail
      go_ret2
      exact ⟨rfl, rfl⟩

set_option maxRecDepth 100000 in
set_option maxHeartbeats 2000000 in
theorem walk_TruthMay (vars : Int) (s : SlV Bool) (w : World) (hv : is64 vars) (hs : SlOk (fun b : Bool => [.bool b]) 1 (fun _ _ => True) w s) (hg : ErrG w) :
    Calls Tryd.prog 6 #[.int .i64 vars, .slice s.A s.l.length s.cap] w fun e w' => e = .returned (.bool true) ∧ Below w.heap.size w w' := by
  have G := Lib.hid hg; clear hg
  have hl := hs.len_le
  have hfit := hs.fits
  have hcm := hs.cap
  have HS := Lib.hid hs
  clear hs
  go_enter Tryd.func6, Tryd.ntmps6
  go_wp2_with fail
  refine (awake4 w).mono ?_
  rintro e w1 ⟨rfl, hb⟩
  have B1 := Lib.hid hb; clear hb
  go_wp2_with fail
  refine (of_any w1 4096 4096 (by decide)).mono ?_
  rintro e w2 ⟨a, rfl, hA, hk, hle⟩
  have A2 := Lib.hid hA; have K2 := Lib.hid hk; clear hA hk hle
  go_wp2_with fail
  by_cases bad : vars < 0 ∨ 10 < vars ∨ s.l.length ≠ 2 ^ vars.toNat
  · refine (tbuild_bad a vars s.A s.l.length s.cap w2 hl bad).mono ?_
    rintro e w3 ⟨rfl, rfl⟩
    have B2 := Lib.hid (below_trans B1.out (below_of_keep K2.out))
    have G2 := Lib.hid (G.out.below B2.out)
    by_cases b1 : vars < 0
    · clear bad
      go_wp2_with fail
      refine (number_any 10 w2 G2.out).mono ?_
      rintro e w3 ⟨rfl, hb⟩
      have B3 := Lib.hid (below_trans B2.out hb); clear hb
      go_wp2_with fail
      go_ret
      exact ⟨ret_bool (by simp), B3.out⟩
    · by_cases b2 : 10 < vars
      · clear bad
        go_wp2_with fail
        refine (number_any 10 w2 G2.out).mono ?_
        rintro e w3 ⟨rfl, hb⟩
        have B3 := Lib.hid (below_trans B2.out hb); clear hb
        go_wp2_with fail
        go_ret
        exact ⟨ret_bool (by simp), B3.out⟩
      · obtain ⟨n, rfl⟩ := Int.eq_ofNat_of_zero_le (show 0 ≤ vars by omega)
        obtain ⟨m, hm⟩ : ∃ m, m = 2 ^ n := ⟨_, rfl⟩
        have hsh : (1 : Int) * 2 ^ n = (m : Int) := by rw [hm]; simp
        have hm2 : m ≤ 1024 := by
          have : 2 ^ n ≤ 2 ^ 10 := Nat.pow_le_pow_right (by omega) (by omega)
          omega
        have hne : ((s.l.length : Int) != (m : Int)) = true := by
          rw [bne_iff_ne]
          simp only [Int.toNat_natCast] at bad
          omega
        clear bad hm
        go_wp2_with fail
        refine (number_any 10 w2 G2.out).mono ?_
        rintro e w3 ⟨rfl, hb⟩
        have B3 := Lib.hid (below_trans B2.out hb); clear hb
        go_wp2_with fail
        go_ret
        exact ⟨ret_bool (by simp), B3.out⟩
  · obtain ⟨n, rfl⟩ := Int.eq_ofNat_of_zero_le (show 0 ≤ vars by omega)
    have hn : n ≤ 10 := by omega
    obtain ⟨m, hm⟩ : ∃ m, m = 2 ^ n := ⟨_, rfl⟩
    have hsh : (1 : Int) * 2 ^ n = (m : Int) := by rw [hm]; simp
    have hm2 : m ≤ 1024 := by
      have : 2 ^ n ≤ 2 ^ 10 := Nat.pow_le_pow_right (by omega) (by omega)
      omega
    have hpos := Nat.two_pow_pos n
    have hlen : s.l.length = m := by
      simp only [Int.toNat_natCast] at bad
      omega
    obtain ⟨b, off, hA, hbl, hcell⟩ := HS.out.at_ (by omega)
    have HM := Lib.hid hm
    clear bad hm
    rw [hlen, hA]
    rw [hlen] at hfit
    have hb2 : b < w1.heap.size := Nat.lt_of_lt_of_le hbl B1.out.size
    have R : Hid (RowsAt w2 b off m fun j => s.l.getD j false) := Lib.hid fun j hj => by
      obtain ⟨u, hu⟩ : ∃ u, s.l[j]? = some u := ⟨_, List.getElem?_eq_getElem (by omega)⟩
      have h0 := hcell j u hu 0 (by omega)
      rw [show off + j * 1 + 0 = off + j by omega] at h0
      have hB := (below_trans B1.out (below_of_keep K2.out)).cell (p := ⟨b, off + j, none⟩) hbl
      rw [hB, h0]
      simp [List.getD_eq_getElem?_getD, hu]
    clear hA hbl hcell
    refine (tbuild_off A2.out (rb := b) hb2 off n s.cap m HM.out hn _ (by omega) (by unfold maxLen at hcm; omega) R.out (by simp; omega)).mono ?_
    rintro e w3 ⟨ns, f, rfl, hd, hA, hk⟩
    have L3 := Lib.hid hd.lt
    have A3 := Lib.hid hA; have B3 := Lib.hid (below_trans B1.out (below_of_keep (K2.out.trans hk))); clear hA hk hd
    have hne : ((m : Int) != (m : Int)) = false := by simp
    go_wp2_with fail
    refine (len_any A3.out).mono ?_
    rintro e w4 ⟨rfl, rfl⟩
    go_wp2_with fail
    go_ret
    exact ⟨ret_bool (by have := L3.out; simp; omega), B3.out⟩
end Go.Proofs.YtbceacihkdmgkaaDoor
