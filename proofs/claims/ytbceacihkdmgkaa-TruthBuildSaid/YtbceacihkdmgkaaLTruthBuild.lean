import Derived.Test.YtbceacihkdmgkaaAwk4
import Derived.Test.YtbceacihkdmgkaaCol
import Derived.Test.YtbceacihkdmgkaaRdk
import Derived.StillTailTactics
set_option linter.unusedVariables false
namespace Go.Proofs.Ytbceacihkdmgkaa
open Go.RowKit Mq

theorem idx_rowN : ∀ n, n < 8 → ∀ k, k < 2 ^ n → idx n 0 (rowN n k) = k := by decide +kernel
/-- The rows that the statement makes. -/
def tbT (l : List Bool) (k : Nat) : Bool := decide (0 < l.length) && (l.getD (k % l.length) false != decide (k / max 1 l.length % 2 = 1))
set_option maxRecDepth 100000 in
set_option maxHeartbeats 4000000 in
theorem walk_TruthBuild (v : Nat) (s : SlV Bool) (w : World) (hv : v < 256) (hs : SlOk (fun b : Bool => [.bool b]) 1 (fun _ _ => True) w s) :
    Calls Try.prog 9 #[.int .u8 v, .slice s.A s.l.length s.cap] w fun e w' => e = .returned (.bool true) ∧ Below w.heap.size w w' := by
  have hl := hs.len_le
  have hfit := hs.fits
  have hcm := hs.cap
  have HS := Lib.hid hs
  clear hs
  obtain ⟨n, hn⟩ : ∃ n, n = v % 8 := ⟨_, rfl⟩
  have hn8 : n < 8 := by omega
  have hv8 : (v : Int) % 8 = (n : Int) := by omega
  obtain ⟨m, hm⟩ : ∃ m, m = 2 ^ n := ⟨_, rfl⟩
  have hsh : (1 : Int) * 2 ^ n = (m : Int) := by rw [hm]; simp
  have hsh2 : (2 : Int) ^ n = (m : Int) := by rw [hm]; simp
  have hm2 : m ≤ 128 := by
    have : 2 ^ n ≤ 2 ^ 7 := Nat.pow_le_pow_right (by omega) (by omega)
    omega
  have hm3 : 1 ≤ m := by have := Nat.two_pow_pos n; omega
  have HM := Lib.hid hm
  clear hm hn
  have hmk := fun w => run_make_row' (P := Try.prog) 49 4 (.bool false) 1 Try.underlying49 bool_info rfl .i64 .i64 m (by omega) (by omega) w
  go_enter Try.func9, Try.ntmps9
  go_wp2_with fail
  refine (awake4 w).mono ?_
  rintro e w1 ⟨rfl, hb⟩
  have B1 := Lib.hid hb; clear hb
  go_wp2_with fail
  refine (of_any w1 5000 5000 (by decide)).mono ?_
  rintro e w2 ⟨a, rfl, hA, hk, hle⟩
  have A2 := Lib.hid hA; have K2 := Lib.hid hk; clear hA hk hle
  go_wp2_with fail
  clear hmk
  have hR := World.rowIs_made w2 (.bool false) m 4
  have hA := A2.out.alloc (.cells (madeCells #[.bool false] m) 4)
  have hK := K2.out.alloc (.cells (madeCells #[.bool false] m) 4)
  generalize w2.alloc (.cells (madeCells #[.bool false] m) 4) = W at *
  have hle := K2.out.size
  have s2 := B1.out.size
  generalize w2.heap.size = b at *
  have R0 := Lib.hid hR; have A3 := Lib.hid hA; have K3 := Lib.hid hK
  clear hR hA hK
  go_loopw [25] (fun k wr => ∃ i : Nat, k = .int .i64 i ∧ i ≤ m ∧ Keep (SzY b) W wr ∧ wr.rowIs b 4 m (fun j => .bool (decide (j < i) && tbT s.l j))) (fun k _ => m - (intOf k).toNat)
  case atStart => exact ⟨0, rfl, by omega, Keep.refl _ _, R0.out.congr fun j hj => by simp⟩
  case round =>
    obtain ⟨i, rfl, hi, hk, hr⟩ := hrel
    have R := Lib.hid hr; have KK := Lib.hid hk; clear hr hk
    by_cases hlt : i < m
    · have k0 := R.out.cell hlt
      have e0 := R.out.frozen i
      have i0 : (0 : Int) ≤ (i : Int) := by omega
      have i1 : (i : Int) < (m : Int) := by omega
      by_cases hL : 0 < s.l.length
      · obtain ⟨sb, so, hA, hBl, hc⟩ := HS.out.at_ hL
        obtain ⟨L, hLL⟩ : ∃ L, L = s.l.length := ⟨_, rfl⟩
        have hq : i % L < L := Nat.mod_lt _ (by omega)
        obtain ⟨u, hu⟩ : ∃ u, s.l[i % L]? = some u := ⟨_, List.getElem?_eq_getElem (by omega)⟩
        have c0 := hc _ u hu 0 (by omega)
        rw [show so + (i % L) * 1 + 0 = so + i % L by omega] at c0
        simp only [List.getElem?_cons_zero] at c0
        have hb1 : Below w.heap.size w wr := below_trans B1.out (below_of_keep ((K3.out.trans (KK.out.mono fun k (hk : k < w1.heap.size) => show k ≠ b by omega))))
        have c1 := (hb1.cell (p := ⟨sb, so + i % L, none⟩) hBl).trans c0
        have hT := Lib.hid (show tbT s.l i = (u != decide (i / max 1 L % 2 = 1)) by
          unfold tbT
          rw [← hLL, List.getD_eq_getElem?_getD, hu]
          simp [show 0 < L by omega])
        have hmx : max 1 (L : Int) = (L : Int) := by omega
        have hmx2 : max 1 L = L := by omega
        rw [hmx2] at hT
        rw [hA, ← hLL]
        have hl2 : L ≤ 9223372036854775807 := by omega
        have hL2 : 0 < L := by omega
        clear hc c0 hb1 hLL hA hu hL hl hfit hcm
        have q1 : (i : Int).tmod (L : Int) = ((i % L : Nat) : Int) := by rw [Int.tmod_eq_emod_of_nonneg (by omega)]; simp
        have q1' : (i : Int) % (L : Int) = ((i % L : Nat) : Int) := by simp
        have q2' : (i : Int) / (L : Int) = ((i / L : Nat) : Int) := by simp
        have q3 : i / L ≤ i := Nat.div_le_self _ _
        have q4 : (((i / L : Nat) : Int) % 2 == 1) = decide (i / L % 2 = 1) := by rw [Bool.eq_iff_iff]; simp; omega
        generalize i % L = q at *
        generalize i / L = d at *
        go_wp2_with fail
        go_region
        rw [show (!u == ((wrap64 ((i : Int) / if (1 : Int) < (L : Int) then (L : Int) else 1)).tmod 2 == 1)) = tbT s.l i by
          have hif : (if (1 : Int) < (L : Int) then (L : Int) else 1) = (L : Int) := by split <;> omega
          rw [hif, q2', show wrap64 (d : Int) = d by unfold wrap64; omega, Int.tmod_eq_emod_of_nonneg (by omega), q4, hT.out]
          cases u <;> cases decide (d % 2 = 1) <;> rfl]
        clear q1 q1' q2' q3 q4 hmx hmx2 hl2 hL2 c1 hq
        clear k0 e0
        generalize hW2 : World.drew _ = W2
        have R2 : W2.rowIs b 4 m (fun j => .bool (decide (j < i + 1) && tbT s.l j)) := by
          rw [← hW2]
          refine ((R.out.set i (.bool (tbT s.l i))).congr fun j hj => ?_).of_block rfl
          by_cases e : j = i
          · subst e; rw [if_pos rfl]; simp
          · rw [if_neg e, show decide (j < i) = decide (j < i + 1) by rw [decide_eq_decide]; omega]
        have K2 : Keep (SzY b) W W2 := by rw [← hW2]; exact (KK.out.trans (keep_setCell (p := ⟨b, i, none⟩) (fun h => h rfl) _)).drew
        have RR2 := Lib.hid R2; have KK2 := Lib.hid K2
        clear hW2 R2 K2
        go_wp2_with fail
        go_roundw
        case rel => exact ⟨i + 1, by go_num, by omega, KK2.out, RR2.out⟩
        case measure => simp [intOf] <;> omega
      · have hL0 : s.l.length = 0 := by omega
        have hT := Lib.hid (show tbT s.l i = false by simp [tbT, hL0])
        rw [hL0]
        go_wp2_with fail
        go_region
        clear k0 e0
        generalize hW2 : World.drew _ = W2
        have R2 : W2.rowIs b 4 m (fun j => .bool (decide (j < i + 1) && tbT s.l j)) := by
          rw [← hW2]
          refine ((R.out.set i (.bool false)).congr fun j hj => ?_).of_block rfl
          by_cases e : j = i
          · subst e; rw [if_pos rfl, hT.out]; simp
          · rw [if_neg e, show decide (j < i) = decide (j < i + 1) by rw [decide_eq_decide]; omega]
        have K2 : Keep (SzY b) W W2 := by rw [← hW2]; exact (KK.out.trans (keep_setCell (p := ⟨b, i, none⟩) (fun h => h rfl) _)).drew
        have RR2 := Lib.hid R2; have KK2 := Lib.hid K2
        clear hW2 R2 K2
        go_wp2_with fail
        go_roundw
        case rel => exact ⟨i + 1, by go_num, by omega, KK2.out, RR2.out⟩
        case measure => simp [intOf] <;> omega
    · have hi' : i = m := by omega
      subst hi'
      have A4 := Lib.hid (A3.out.keepY (mb := b) (.inr rfl) KK.out)
      have K4 := Lib.hid (K3.out.trans (KK.out.mono fun k (hk : k < w1.heap.size) => show k ≠ b by omega))
      have RA : Hid (RowsAt wr b 0 i (tbT s.l)) := Lib.hid fun j hj => by rw [Nat.zero_add, R.out.cell hj]; simp [hj]
      clear hl hfit hcm
      go_wp2_with fail
      refine (tbuild_any A4.out (rb := b) (.inr rfl) n i i HM.out (by omega) (tbT s.l) (by omega) (by omega) RA.out (by simp; omega)).mono ?_
      rintro e w5 ⟨ns, f, rfl, hd, hA, hk⟩
      have D5 := Lib.hid hd
      have A5 := Lib.hid hA; have K5 := Lib.hid (K4.out.trans (hk.mono fun k hk => .inl hk))
      have lb : b < wr.heap.size := R.out.lt
      have R5 : Hid (w5.rowIs b 4 i (fun j => .bool (tbT s.l j))) := Lib.hid ((R.out.of_block (hk.block b (.inr rfl) lb)).congr fun j hj => by simp [hj])
      clear hA hk hd lb
      go_wp2_with fail
      refine (ttable_any A5.out f D5.out.lt n n i (by omega) HM.out).mono ?_
      rintro e w6 ⟨tb, rfl, htb, hB, hT⟩
      have B6 := Lib.hid hB
      have T6 : Hid (w6.rowIs tb 4 i (fun j => .bool (tbT s.l j))) := Lib.hid (hT.congr fun j hj => by
        show Value.bool (ev ns _ f) = _
        rw [D5.out.ev, idx_rowN n hn8 j (by rw [← HM.out]; exact hj)])
      have R6 := Lib.hid (R5.out.of_block (hB.block b R5.out.lt))
      have lh : (tb : Nat) ≠ b := by have := R5.out.lt; omega
      clear hB hT htb
      have hne : ((i : Int) != (i : Int)) = false := by simp
      go_wp2_with fail
      go_loopw [74, 12] (fun k y wq => ∃ j : Nat, k = .int .i64 j ∧ y = .int .i64 (cnt (tbT s.l) j : Nat) ∧ j ≤ i ∧ Below w6.heap.size w6 wq) (fun k _ _ => i - (intOf k).toNat)
      case atStart => exact ⟨0, rfl, rfl, by omega, Below.refl _ _⟩
      case round =>
        obtain ⟨j, rfl, rfl, hj, hb⟩ := hrel
        have BQ := Lib.hid hb
        have hcl := cnt_le (tbT s.l) j
        clear hb
        by_cases hlt : j < i
        · have t0 := (T6.out.of_block (BQ.out.block tb T6.out.lt)).cell hlt
          have r0 := (R6.out.of_block (BQ.out.block b R6.out.lt)).cell hlt
          cases hT : tbT s.l j
          · rw [hT] at t0 r0
            have hn : Hid (cnt (tbT s.l) (j + 1) = cnt (tbT s.l) j) := Lib.hid (by simp [cnt, hT])
            clear hT
            go_wp2_with fail
            go_quiet (fail)
            go_wp2_with fail
            go_roundw
            case rel => exact ⟨j + 1, by go_num, by rw [hn.out], by omega, pw_below_drewN BQ.out _⟩
            case measure => simp [intOf] <;> omega
          · rw [hT] at t0 r0
            have hn : Hid (cnt (tbT s.l) (j + 1) = cnt (tbT s.l) j + 1) := Lib.hid (by simp [cnt, hT])
            clear hT
            go_wp2_with fail
            go_quiet (fail)
            go_wp2_with fail
            go_roundw
            case rel => exact ⟨j + 1, by go_num, by rw [hn.out]; simp, by omega, pw_below_drewN BQ.out _⟩
            case measure => simp [intOf] <;> omega
        · have hj' : j = i := by omega
          subst hj'
          have A7 := Lib.hid (A5.out.below (below_trans B6.out BQ.out))
          go_wp2_with fail
          refine (tcount_any A7.out f D5.out.lt n n j (by omega) HM.out).mono ?_
          rintro e w8 ⟨rfl, hb⟩
          rw [show cnt (fun i => ev ns (rowN n i) f) j = cnt (tbT s.l) j from cnt_congr j fun q hq => by rw [D5.out.ev, idx_rowN n hn8 q (by rw [← HM.out]; exact hq)]]
          have B8 := Lib.hid (below_trans B1.out (below_trans (below_of_keep K5.out) (below_trans B6.out (below_trans BQ.out hb)))); clear hb
          go_wp2_with fail
          go_ret
          exact ⟨ret_bool (by simp), B8.out⟩
end Go.Proofs.Ytbceacihkdmgkaa
