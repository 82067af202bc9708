import Derived.Test.YtbceacihkdmgkaaAwk4
import Derived.Test.YtbceacihkdmgkaaCol
import Derived.Test.YtbceacihkdmgkaaPrt
set_option linter.unusedVariables false
namespace Go.Proofs.Ytbceacihkdmgkaa
open Go.RowKit Mq

def numw (k : Nat) : Value := .int .u16 k
theorem key_u16 : KeyT numw Try.prog 22 := KeyT.of_now Try.underlying22 (fun x => rfl) (fun x y => by
  simp only [Instr.sameNow, numw]
  rw [show decide (x = y) = ((x : Int) == (y : Int)) by rw [Bool.eq_iff_iff]; simp; omega]
  rfl)
theorem run_part_look (w : World) {mb : Nat} {S : List Nat} (h : w.heap[mb]? = some (mapObj numw boolv (trm S))) (k : Nat) :
    (Instr.lookup 55 (.map (some mb)) (numw k) false).run Try.prog w = .ok (.bool (decide (k ∈ S))) w := by
  have := run_look key_u16 (e := 4) Try.underlying55 (z := false) (encv := boolv) (fun w => by kernel_rfl) w h k false
  rw [look_trm] at this
  refine this.trans ?_
  by_cases hk : k ∈ S <;> simp [hk, boolv]
theorem run_part_store (w : World) {mb : Nat} {S : List Nat} (h : w.heap[mb]? = some (mapObj numw boolv (trm S))) {k : Nat} (hk : k ∉ S) :
    (Instr.mapUpdate 55 (.map (some mb)) (numw k) (.bool true)).run Try.prog w = .ok () (ChangeMaps.setBlock w mb (mapObj numw boolv (trm (S ++ [k])))) := by
  have := Mq.run_store key_u16 Try.underlying55 (encv := boolv) w h k true
  rw [put_trm hk] at this
  exact this
def sumP (x : Nat) : Nat → Nat
  | 0 => 0
  | i + 1 => sumP x i + (parts x i (2 ^ i)).length
/-- An inner round's state. -/
structure InRel (x v N M mb : Nat) (W wr : World) (j : Nat) : Prop where
  keep : Keep (SzY mb) W wr
  seen : wr.heap[mb]? = some (mapObj numw boolv (trm (parts x v j)))

theorem parts_same1 {x v j : Nat} (h : part4 x v j % 2 ^ 2 ^ (4 - (v + 1)) = part4 x v j / 2 ^ 2 ^ (4 - (v + 1))) : parts x v (j + 1) = parts x v j := by
  unfold parts; rw [uniq, if_neg (fun q => absurd h (of_decide_eq_true q.1))]
theorem parts_same2 {x v j : Nat} (h : part4 x v j ∈ parts x v j) : parts x v (j + 1) = parts x v j := by
  unfold parts; rw [uniq, if_neg (fun q => q.2 h)]
theorem parts_new {x v j : Nat} (h : part4 x v j % 2 ^ 2 ^ (4 - (v + 1)) ≠ part4 x v j / 2 ^ 2 ^ (4 - (v + 1))) (hn : part4 x v j ∉ parts x v j) : parts x v (j + 1) = parts x v j ++ [part4 x v j] := by
  unfold parts; rw [uniq, if_pos ⟨decide_eq_true h, hn⟩]
theorem parts_le (x v n : Nat) : (parts x v n).length ≤ n := by
  unfold parts
  induction n with
  | zero => simp [uniq]
  | succ n ih =>
    rw [uniq]
    split
    · rw [List.length_append, List.length_singleton]; omega
    · omega
theorem part4_val {x v j : Nat} (hx : x < 65536) (hv : v < 5) (z : Int) (hz : z = ((2 ^ 2 ^ (4 - v) - 1 : Nat) : Int)) (q : Nat) (hq : q = 2 ^ (4 - v) * j) : bits BinOp.and .u16 ((x : Int) / 2 ^ q) z = ((part4 x v j : Nat) : Int) := by
  subst hz; subst hq
  have h1 : ((x : Int) / 2 ^ (2 ^ (4 - v) * j)) = ((x / 2 ^ (2 ^ (4 - v) * j) : Nat) : Int) := by simp
  have hlt : x / 2 ^ (2 ^ (4 - v) * j) < 65536 := Nat.lt_of_le_of_lt (Nat.div_le_self _ _) hx
  have hm : 2 ^ 2 ^ (4 - v) - 1 < 65536 := by
    have hv' : v = 0 ∨ v = 1 ∨ v = 2 ∨ v = 3 ∨ v = 4 := by omega
    rcases hv' with rfl | rfl | rfl | rfl | rfl <;> decide
  rw [h1, u16_and_nat _ _ hlt hm, Nat.and_two_pow_sub_one_eq_mod]
  rfl
theorem low_val {p : Nat} (hp : p < 65536) (n : Nat) (hn : n < 16) (z : Int) (hz : z = ((2 ^ n - 1 : Nat) : Int)) : bits BinOp.and .u16 (p : Int) z = ((p % 2 ^ n : Nat) : Int) := by
  subst hz
  have hm : 2 ^ n ≤ 2 ^ 15 := Nat.pow_le_pow_right (by omega) (by omega)
  rw [u16_and_nat _ _ hp (by omega), Nat.and_two_pow_sub_one_eq_mod]

set_option maxRecDepth 100000 in
set_option maxHeartbeats 4000000 in
theorem walk_TruthSize (x y : Nat) (hx : x < 65536) (hy : y < 65536) (w : World) : Calls Try.prog 11 #[.int .u16 x, .int .u16 y] w fun e w' => e = .returned (.bool true) ∧ Below w.heap.size w w' := by
  have hmm := @run_makeMap Try.prog
  go_enter Try.func11, Try.ntmps11
  go_wp2_with fail
  refine (awake4 w).mono ?_
  rintro e w1 ⟨rfl, hb⟩
  have B1 := Lib.hid hb; clear hb
  go_wp2_with fail
  refine (of_any w1 100 100 (by decide)).mono ?_
  rintro e w2 ⟨a, rfl, hA, hk, hle⟩
  have A2 := Lib.hid hA; have K2 := Lib.hid hk; clear hA hk hle
  go_wp2_with fail
  refine (build_any A2.out y hy (by simp)).mono ?_
  rintro e w3 ⟨ns1, g, rfl, hd, hA, hk⟩
  have A3 := Lib.hid hA; have K3 := Lib.hid (K2.out.trans hk)
  have L3 : Hid (ns1.length ≤ 17) := Lib.hid (by have := hd.few; simp at this; omega)
  clear hA hk hd
  go_wp2_with fail
  refine (build_any A3.out x hx (by have := L3.out; omega)).mono ?_
  rintro e w4 ⟨ns, f, rfl, hd, hA, hk⟩
  have A4 := Lib.hid hA; have K4 := Lib.hid (K3.out.trans hk); have T1 := Lib.hid (Tab.of_built hx hd)
  clear hA hk hd
  go_wp2_with fail
  have hz := T1.out.ev
  go_loopw [7, 8] (fun n v wr => ∃ i : Nat, v = .int .i64 i ∧ n = .int .i64 (sumP x i : Nat) ∧ i ≤ 4 ∧ Below w4.heap.size w4 wr) (fun _ v _ => 4 - (intOf v).toNat)
  case atStart => exact ⟨0, rfl, rfl, by omega, Below.refl _ _⟩
  case round =>
    obtain ⟨i, rfl, rfl, hi, hb⟩ := hrel
    have B := Lib.hid hb; clear hb
    have hi' : i = 0 ∨ i = 1 ∨ i = 2 ∨ i = 3 ∨ i = 4 := by omega
    rcases hi' with rfl | rfl | rfl | rfl | rfl
    · rw [show ((0 : Nat) : Int) = 0 from rfl]
      go_wp2_with fail
      have hm := heap_alloc_new wr (.map #[] 0)
      have hB := below_alloc B.out (.map #[] 0)
      have hsz := B.out.size
      generalize hmb : wr.heap.size = mb at *
      generalize wr.alloc (.map #[] 0) = W at *
      have hsz2 : mb < W.heap.size := (Array.getElem?_eq_some_iff.1 hm).1
      clear hmb
      have HM := Lib.hid hm
      have HB := Lib.hid hB
      have SP : sumP x 0 ≤ 15 := by have := parts_le x 0 1; have := parts_le x 1 2; have := parts_le x 2 4; simp [sumP] <;> omega
      clear hm hB
      go_loopw [7, 11] (fun n fr wi => ∃ j : Nat, fr = .int .i64 ((16 * j : Nat) : Int) ∧ n = .int .i64 (sumP x 0 + (parts x 0 j).length : Nat) ∧ j ≤ 1 ∧ InRel x 0 0 0 mb W wi j) (fun _ fr _ => 16 - (intOf fr).toNat)
      case atStart => exact ⟨0, rfl, rfl, by omega, Keep.refl _ _, HM.out⟩
      case round =>
        obtain ⟨j, rfl, rfl, hj, hin⟩ := hrel
        have R := Lib.hid hin
        have PL := parts_le x 0 j
        clear hin
        by_cases hlt : j < 1
        · have hP : bits BinOp.and .u16 ((x : Int) / 2 ^ (16 * j)) 65535 = ((part4 x 0 j : Nat) : Int) := part4_val hx (by omega) 65535 (by decide) (16 * j) (by simp)
          have hp : part4 x 0 j < 65536 := Nat.mod_lt _ (by decide)
          obtain ⟨p, hpq⟩ : ∃ p, p = part4 x 0 j := ⟨_, rfl⟩
          rw [← hpq] at hP hp
          have PQ := Lib.hid hpq
          clear hpq
          have hL : bits BinOp.and .u16 (p : Int) 255 = ((p % 256 : Nat) : Int) := low_val (by omega) 8 (by omega) 255 (by decide)
          have hH : (p : Int) / 256 = ((p / 256 : Nat) : Int) := by simp
          have hw : IntKind.i64.wrap 8 = 8 := rfl
          have hw2 : IntKind.u16.wrap 256 = 256 := rfl
          have hw4 : IntKind.u16.wrap 65536 = 0 := rfl
          have hw5 : IntKind.u16.wrap (-1) = 65535 := rfl
          have hw3 : IntKind.u16.wrap 255 = 255 := rfl
          obtain ⟨lo, hlo⟩ : ∃ lo, lo = p % 256 := ⟨_, rfl⟩
          obtain ⟨hi, hhi⟩ : ∃ hi, hi = p / 256 := ⟨_, rfl⟩
          rw [← hlo] at hL
          rw [← hhi] at hH
          have LO := Lib.hid hlo
          have HI := Lib.hid hhi
          clear hlo hhi
          go_wp2_with fail
          go_quiet (fail)
          go_wp2_with fail
          go_quiet (fail)
          generalize hW5 : World.drewN (World.drewN _ _) _ = W5
          have K5 : Keep (SzY mb) W W5 := by rw [← hW5]; exact (R.out.keep.drewN _).drewN _
          have S5 : W5.heap[mb]? = some (mapObj numw boolv (trm (parts x 0 j))) := by rw [← hW5]; exact R.out.seen
          clear hW5
          have KK5 := Lib.hid K5
          have SS5 := Lib.hid S5
          clear K5
          by_cases hlh : lo = hi
          · have PE : Hid (parts x 0 (j + 1) = parts x 0 j) := Lib.hid (parts_same1 (by rw [← PQ.out]; exact LO.out.symm.trans (hlh.trans HI.out)))
            have hcmp : ((lo : Int) != (hi : Int)) = false := by rw [bne_eq_false_iff_eq]; omega
            clear S5 hlh
            go_wp2_with fail
            go_roundw
            case rel => exact ⟨j + 1, by go_num, by rw [PE.out] <;> simp, by omega, KK5.out, by rw [PE.out]; exact SS5.out⟩
            case measure => simp [intOf] <;> omega
          · have hcmp : ((lo : Int) != (hi : Int)) = true := by rw [bne_iff_ne]; omega
            have hlk := run_part_look W5 S5 p
            by_cases hin : p ∈ parts x 0 j
            · have PE : Hid (parts x 0 (j + 1) = parts x 0 j) := Lib.hid (parts_same2 (by rw [← PQ.out]; exact hin))
              rw [show decide (p ∈ parts x 0 j) = true by simp [hin]] at hlk
              unfold numw at hlk
              clear S5 hlh hin
              go_wp2_with fail
              go_roundw
              case rel => exact ⟨j + 1, by go_num, by rw [PE.out] <;> simp, by omega, KK5.out, by rw [PE.out]; exact SS5.out⟩
              case measure => simp [intOf] <;> omega
            · have PE : Hid (parts x 0 (j + 1) = parts x 0 j ++ [p]) := Lib.hid (by rw [parts_new (by rw [← PQ.out]; exact fun q => hlh (LO.out.trans (q.trans HI.out.symm))) (by rw [← PQ.out]; exact hin), ← PQ.out])
              rw [show decide (p ∈ parts x 0 j) = false by simp [hin]] at hlk
              have hst := run_part_store W5 S5 hin
              have hms : mb < W5.heap.size := (Array.getElem?_eq_some_iff.1 S5).1
              unfold numw at hlk hst
              rw [show (fun x : Nat => Value.int .u16 (x : Int)) = numw from rfl] at hst
              have HST := Lib.hid hst
              clear S5 hlh hin hst
              go_wp2_with fail
              rw [HST.out]
              have KS := Lib.hid (KK5.out.trans (set_keepY W5 mb (mapObj numw boolv (trm (parts x 0 j ++ [p])))))
              have SS := Lib.hid (set_new hms (mapObj numw boolv (trm (parts x 0 j ++ [p]))))
              generalize ChangeMaps.setBlock W5 mb (mapObj numw boolv (trm (parts x 0 j ++ [p]))) = W6 at *
              clear hlk
              go_wp2_with fail
              go_roundw
              case rel => exact ⟨j + 1, by go_num, by rw [PE.out]; simp; omega, by omega, KS.out, by rw [PE.out]; exact SS.out⟩
              case measure => simp [intOf] <;> omega
        · have hj' : j = 1 := by omega
          subst hj'
          go_wp2_with fail
          go_roundw
          case rel => exact ⟨0 + 1, by go_num, by simp [sumP], by omega, below_of_keepY HB.out R.out.keep⟩
          case measure => simp [intOf] <;> omega
    · rw [show ((1 : Nat) : Int) = 1 from rfl]
      go_wp2_with fail
      have hm := heap_alloc_new wr (.map #[] 0)
      have hB := below_alloc B.out (.map #[] 0)
      have hsz := B.out.size
      generalize hmb : wr.heap.size = mb at *
      generalize wr.alloc (.map #[] 0) = W at *
      have hsz2 : mb < W.heap.size := (Array.getElem?_eq_some_iff.1 hm).1
      clear hmb
      have HM := Lib.hid hm
      have HB := Lib.hid hB
      have SP : sumP x 1 ≤ 15 := by have := parts_le x 0 1; have := parts_le x 1 2; have := parts_le x 2 4; simp [sumP] <;> omega
      clear hm hB
      go_loopw [7, 11] (fun n fr wi => ∃ j : Nat, fr = .int .i64 ((8 * j : Nat) : Int) ∧ n = .int .i64 (sumP x 1 + (parts x 1 j).length : Nat) ∧ j ≤ 2 ∧ InRel x 1 0 0 mb W wi j) (fun _ fr _ => 16 - (intOf fr).toNat)
      case atStart => exact ⟨0, rfl, rfl, by omega, Keep.refl _ _, HM.out⟩
      case round =>
        obtain ⟨j, rfl, rfl, hj, hin⟩ := hrel
        have R := Lib.hid hin
        have PL := parts_le x 1 j
        clear hin
        by_cases hlt : j < 2
        · have hP : bits BinOp.and .u16 ((x : Int) / 2 ^ (8 * j)) 255 = ((part4 x 1 j : Nat) : Int) := part4_val hx (by omega) 255 (by decide) (8 * j) (by simp)
          have hp : part4 x 1 j < 256 := Nat.mod_lt _ (by decide)
          obtain ⟨p, hpq⟩ : ∃ p, p = part4 x 1 j := ⟨_, rfl⟩
          rw [← hpq] at hP hp
          have PQ := Lib.hid hpq
          clear hpq
          have hL : bits BinOp.and .u16 (p : Int) 15 = ((p % 16 : Nat) : Int) := low_val (by omega) 4 (by omega) 15 (by decide)
          have hH : (p : Int) / 16 = ((p / 16 : Nat) : Int) := by simp
          have hw : IntKind.i64.wrap 4 = 4 := rfl
          have hw2 : IntKind.u16.wrap 16 = 16 := rfl
          have hw4 : IntKind.u16.wrap 256 = 256 := rfl
          have hw5 : IntKind.u16.wrap (-1) = 65535 := rfl
          have hw3 : IntKind.u16.wrap 15 = 15 := rfl
          obtain ⟨lo, hlo⟩ : ∃ lo, lo = p % 16 := ⟨_, rfl⟩
          obtain ⟨hi, hhi⟩ : ∃ hi, hi = p / 16 := ⟨_, rfl⟩
          rw [← hlo] at hL
          rw [← hhi] at hH
          have LO := Lib.hid hlo
          have HI := Lib.hid hhi
          clear hlo hhi
          go_wp2_with fail
          go_quiet (fail)
          go_wp2_with fail
          go_quiet (fail)
          generalize hW5 : World.drewN (World.drewN _ _) _ = W5
          have K5 : Keep (SzY mb) W W5 := by rw [← hW5]; exact (R.out.keep.drewN _).drewN _
          have S5 : W5.heap[mb]? = some (mapObj numw boolv (trm (parts x 1 j))) := by rw [← hW5]; exact R.out.seen
          clear hW5
          have KK5 := Lib.hid K5
          have SS5 := Lib.hid S5
          clear K5
          by_cases hlh : lo = hi
          · have PE : Hid (parts x 1 (j + 1) = parts x 1 j) := Lib.hid (parts_same1 (by rw [← PQ.out]; exact LO.out.symm.trans (hlh.trans HI.out)))
            have hcmp : ((lo : Int) != (hi : Int)) = false := by rw [bne_eq_false_iff_eq]; omega
            clear S5 hlh
            go_wp2_with fail
            go_roundw
            case rel => exact ⟨j + 1, by go_num, by rw [PE.out] <;> simp, by omega, KK5.out, by rw [PE.out]; exact SS5.out⟩
            case measure => simp [intOf] <;> omega
          · have hcmp : ((lo : Int) != (hi : Int)) = true := by rw [bne_iff_ne]; omega
            have hlk := run_part_look W5 S5 p
            by_cases hin : p ∈ parts x 1 j
            · have PE : Hid (parts x 1 (j + 1) = parts x 1 j) := Lib.hid (parts_same2 (by rw [← PQ.out]; exact hin))
              rw [show decide (p ∈ parts x 1 j) = true by simp [hin]] at hlk
              unfold numw at hlk
              clear S5 hlh hin
              go_wp2_with fail
              go_roundw
              case rel => exact ⟨j + 1, by go_num, by rw [PE.out] <;> simp, by omega, KK5.out, by rw [PE.out]; exact SS5.out⟩
              case measure => simp [intOf] <;> omega
            · have PE : Hid (parts x 1 (j + 1) = parts x 1 j ++ [p]) := Lib.hid (by rw [parts_new (by rw [← PQ.out]; exact fun q => hlh (LO.out.trans (q.trans HI.out.symm))) (by rw [← PQ.out]; exact hin), ← PQ.out])
              rw [show decide (p ∈ parts x 1 j) = false by simp [hin]] at hlk
              have hst := run_part_store W5 S5 hin
              have hms : mb < W5.heap.size := (Array.getElem?_eq_some_iff.1 S5).1
              unfold numw at hlk hst
              rw [show (fun x : Nat => Value.int .u16 (x : Int)) = numw from rfl] at hst
              have HST := Lib.hid hst
              clear S5 hlh hin hst
              go_wp2_with fail
              rw [HST.out]
              have KS := Lib.hid (KK5.out.trans (set_keepY W5 mb (mapObj numw boolv (trm (parts x 1 j ++ [p])))))
              have SS := Lib.hid (set_new hms (mapObj numw boolv (trm (parts x 1 j ++ [p]))))
              generalize ChangeMaps.setBlock W5 mb (mapObj numw boolv (trm (parts x 1 j ++ [p]))) = W6 at *
              clear hlk
              go_wp2_with fail
              go_roundw
              case rel => exact ⟨j + 1, by go_num, by rw [PE.out]; simp; omega, by omega, KS.out, by rw [PE.out]; exact SS.out⟩
              case measure => simp [intOf] <;> omega
        · have hj' : j = 2 := by omega
          subst hj'
          go_wp2_with fail
          go_roundw
          case rel => exact ⟨1 + 1, by go_num, by simp [sumP], by omega, below_of_keepY HB.out R.out.keep⟩
          case measure => simp [intOf] <;> omega
    · rw [show ((2 : Nat) : Int) = 2 from rfl]
      go_wp2_with fail
      have hm := heap_alloc_new wr (.map #[] 0)
      have hB := below_alloc B.out (.map #[] 0)
      have hsz := B.out.size
      generalize hmb : wr.heap.size = mb at *
      generalize wr.alloc (.map #[] 0) = W at *
      have hsz2 : mb < W.heap.size := (Array.getElem?_eq_some_iff.1 hm).1
      clear hmb
      have HM := Lib.hid hm
      have HB := Lib.hid hB
      have SP : sumP x 2 ≤ 15 := by have := parts_le x 0 1; have := parts_le x 1 2; have := parts_le x 2 4; simp [sumP] <;> omega
      clear hm hB
      go_loopw [7, 11] (fun n fr wi => ∃ j : Nat, fr = .int .i64 ((4 * j : Nat) : Int) ∧ n = .int .i64 (sumP x 2 + (parts x 2 j).length : Nat) ∧ j ≤ 4 ∧ InRel x 2 0 0 mb W wi j) (fun _ fr _ => 16 - (intOf fr).toNat)
      case atStart => exact ⟨0, rfl, rfl, by omega, Keep.refl _ _, HM.out⟩
      case round =>
        obtain ⟨j, rfl, rfl, hj, hin⟩ := hrel
        have R := Lib.hid hin
        have PL := parts_le x 2 j
        clear hin
        by_cases hlt : j < 4
        · have hP : bits BinOp.and .u16 ((x : Int) / 2 ^ (4 * j)) 15 = ((part4 x 2 j : Nat) : Int) := part4_val hx (by omega) 15 (by decide) (4 * j) (by simp)
          have hp : part4 x 2 j < 16 := Nat.mod_lt _ (by decide)
          obtain ⟨p, hpq⟩ : ∃ p, p = part4 x 2 j := ⟨_, rfl⟩
          rw [← hpq] at hP hp
          have PQ := Lib.hid hpq
          clear hpq
          have hL : bits BinOp.and .u16 (p : Int) 3 = ((p % 4 : Nat) : Int) := low_val (by omega) 2 (by omega) 3 (by decide)
          have hH : (p : Int) / 4 = ((p / 4 : Nat) : Int) := by simp
          have hw : IntKind.i64.wrap 2 = 2 := rfl
          have hw2 : IntKind.u16.wrap 4 = 4 := rfl
          have hw4 : IntKind.u16.wrap 16 = 16 := rfl
          have hw5 : IntKind.u16.wrap (-1) = 65535 := rfl
          have hw3 : IntKind.u16.wrap 3 = 3 := rfl
          obtain ⟨lo, hlo⟩ : ∃ lo, lo = p % 4 := ⟨_, rfl⟩
          obtain ⟨hi, hhi⟩ : ∃ hi, hi = p / 4 := ⟨_, rfl⟩
          rw [← hlo] at hL
          rw [← hhi] at hH
          have LO := Lib.hid hlo
          have HI := Lib.hid hhi
          clear hlo hhi
          go_wp2_with fail
          go_quiet (fail)
          go_wp2_with fail
          go_quiet (fail)
          generalize hW5 : World.drewN (World.drewN _ _) _ = W5
          have K5 : Keep (SzY mb) W W5 := by rw [← hW5]; exact (R.out.keep.drewN _).drewN _
          have S5 : W5.heap[mb]? = some (mapObj numw boolv (trm (parts x 2 j))) := by rw [← hW5]; exact R.out.seen
          clear hW5
          have KK5 := Lib.hid K5
          have SS5 := Lib.hid S5
          clear K5
          by_cases hlh : lo = hi
          · have PE : Hid (parts x 2 (j + 1) = parts x 2 j) := Lib.hid (parts_same1 (by rw [← PQ.out]; exact LO.out.symm.trans (hlh.trans HI.out)))
            have hcmp : ((lo : Int) != (hi : Int)) = false := by rw [bne_eq_false_iff_eq]; omega
            clear S5 hlh
            go_wp2_with fail
            go_roundw
            case rel => exact ⟨j + 1, by go_num, by rw [PE.out] <;> simp, by omega, KK5.out, by rw [PE.out]; exact SS5.out⟩
            case measure => simp [intOf] <;> omega
          · have hcmp : ((lo : Int) != (hi : Int)) = true := by rw [bne_iff_ne]; omega
            have hlk := run_part_look W5 S5 p
            by_cases hin : p ∈ parts x 2 j
            · have PE : Hid (parts x 2 (j + 1) = parts x 2 j) := Lib.hid (parts_same2 (by rw [← PQ.out]; exact hin))
              rw [show decide (p ∈ parts x 2 j) = true by simp [hin]] at hlk
              unfold numw at hlk
              clear S5 hlh hin
              go_wp2_with fail
              go_roundw
              case rel => exact ⟨j + 1, by go_num, by rw [PE.out] <;> simp, by omega, KK5.out, by rw [PE.out]; exact SS5.out⟩
              case measure => simp [intOf] <;> omega
            · have PE : Hid (parts x 2 (j + 1) = parts x 2 j ++ [p]) := Lib.hid (by rw [parts_new (by rw [← PQ.out]; exact fun q => hlh (LO.out.trans (q.trans HI.out.symm))) (by rw [← PQ.out]; exact hin), ← PQ.out])
              rw [show decide (p ∈ parts x 2 j) = false by simp [hin]] at hlk
              have hst := run_part_store W5 S5 hin
              have hms : mb < W5.heap.size := (Array.getElem?_eq_some_iff.1 S5).1
              unfold numw at hlk hst
              rw [show (fun x : Nat => Value.int .u16 (x : Int)) = numw from rfl] at hst
              have HST := Lib.hid hst
              clear S5 hlh hin hst
              go_wp2_with fail
              rw [HST.out]
              have KS := Lib.hid (KK5.out.trans (set_keepY W5 mb (mapObj numw boolv (trm (parts x 2 j ++ [p])))))
              have SS := Lib.hid (set_new hms (mapObj numw boolv (trm (parts x 2 j ++ [p]))))
              generalize ChangeMaps.setBlock W5 mb (mapObj numw boolv (trm (parts x 2 j ++ [p]))) = W6 at *
              clear hlk
              go_wp2_with fail
              go_roundw
              case rel => exact ⟨j + 1, by go_num, by rw [PE.out]; simp; omega, by omega, KS.out, by rw [PE.out]; exact SS.out⟩
              case measure => simp [intOf] <;> omega
        · have hj' : j = 4 := by omega
          subst hj'
          go_wp2_with fail
          go_roundw
          case rel => exact ⟨2 + 1, by go_num, by simp [sumP], by omega, below_of_keepY HB.out R.out.keep⟩
          case measure => simp [intOf] <;> omega
    · rw [show ((3 : Nat) : Int) = 3 from rfl]
      go_wp2_with fail
      have hm := heap_alloc_new wr (.map #[] 0)
      have hB := below_alloc B.out (.map #[] 0)
      have hsz := B.out.size
      generalize hmb : wr.heap.size = mb at *
      generalize wr.alloc (.map #[] 0) = W at *
      have hsz2 : mb < W.heap.size := (Array.getElem?_eq_some_iff.1 hm).1
      clear hmb
      have HM := Lib.hid hm
      have HB := Lib.hid hB
      have SP : sumP x 3 ≤ 15 := by have := parts_le x 0 1; have := parts_le x 1 2; have := parts_le x 2 4; simp [sumP] <;> omega
      clear hm hB
      go_loopw [7, 11] (fun n fr wi => ∃ j : Nat, fr = .int .i64 ((2 * j : Nat) : Int) ∧ n = .int .i64 (sumP x 3 + (parts x 3 j).length : Nat) ∧ j ≤ 8 ∧ InRel x 3 0 0 mb W wi j) (fun _ fr _ => 16 - (intOf fr).toNat)
      case atStart => exact ⟨0, rfl, rfl, by omega, Keep.refl _ _, HM.out⟩
      case round =>
        obtain ⟨j, rfl, rfl, hj, hin⟩ := hrel
        have R := Lib.hid hin
        have PL := parts_le x 3 j
        clear hin
        by_cases hlt : j < 8
        · have hP : bits BinOp.and .u16 ((x : Int) / 2 ^ (2 * j)) 3 = ((part4 x 3 j : Nat) : Int) := part4_val hx (by omega) 3 (by decide) (2 * j) (by simp)
          have hp : part4 x 3 j < 4 := Nat.mod_lt _ (by decide)
          obtain ⟨p, hpq⟩ : ∃ p, p = part4 x 3 j := ⟨_, rfl⟩
          rw [← hpq] at hP hp
          have PQ := Lib.hid hpq
          clear hpq
          have hL : bits BinOp.and .u16 (p : Int) 1 = ((p % 2 : Nat) : Int) := low_val (by omega) 1 (by omega) 1 (by decide)
          have hH : (p : Int) / 2 = ((p / 2 : Nat) : Int) := by simp
          have hw : IntKind.i64.wrap 1 = 1 := rfl
          have hw2 : IntKind.u16.wrap 2 = 2 := rfl
          have hw4 : IntKind.u16.wrap 4 = 4 := rfl
          have hw5 : IntKind.u16.wrap (-1) = 65535 := rfl
          have hw3 : IntKind.u16.wrap 1 = 1 := rfl
          obtain ⟨lo, hlo⟩ : ∃ lo, lo = p % 2 := ⟨_, rfl⟩
          obtain ⟨hi, hhi⟩ : ∃ hi, hi = p / 2 := ⟨_, rfl⟩
          rw [← hlo] at hL
          rw [← hhi] at hH
          have LO := Lib.hid hlo
          have HI := Lib.hid hhi
          clear hlo hhi
          go_wp2_with fail
          go_quiet (fail)
          go_wp2_with fail
          go_quiet (fail)
          generalize hW5 : World.drewN (World.drewN _ _) _ = W5
          have K5 : Keep (SzY mb) W W5 := by rw [← hW5]; exact (R.out.keep.drewN _).drewN _
          have S5 : W5.heap[mb]? = some (mapObj numw boolv (trm (parts x 3 j))) := by rw [← hW5]; exact R.out.seen
          clear hW5
          have KK5 := Lib.hid K5
          have SS5 := Lib.hid S5
          clear K5
          by_cases hlh : lo = hi
          · have PE : Hid (parts x 3 (j + 1) = parts x 3 j) := Lib.hid (parts_same1 (by rw [← PQ.out]; exact LO.out.symm.trans (hlh.trans HI.out)))
            have hcmp : ((lo : Int) != (hi : Int)) = false := by rw [bne_eq_false_iff_eq]; omega
            clear S5 hlh
            go_wp2_with fail
            go_roundw
            case rel => exact ⟨j + 1, by go_num, by rw [PE.out] <;> simp, by omega, KK5.out, by rw [PE.out]; exact SS5.out⟩
            case measure => simp [intOf] <;> omega
          · have hcmp : ((lo : Int) != (hi : Int)) = true := by rw [bne_iff_ne]; omega
            have hlk := run_part_look W5 S5 p
            by_cases hin : p ∈ parts x 3 j
            · have PE : Hid (parts x 3 (j + 1) = parts x 3 j) := Lib.hid (parts_same2 (by rw [← PQ.out]; exact hin))
              rw [show decide (p ∈ parts x 3 j) = true by simp [hin]] at hlk
              unfold numw at hlk
              clear S5 hlh hin
              go_wp2_with fail
              go_roundw
              case rel => exact ⟨j + 1, by go_num, by rw [PE.out] <;> simp, by omega, KK5.out, by rw [PE.out]; exact SS5.out⟩
              case measure => simp [intOf] <;> omega
            · have PE : Hid (parts x 3 (j + 1) = parts x 3 j ++ [p]) := Lib.hid (by rw [parts_new (by rw [← PQ.out]; exact fun q => hlh (LO.out.trans (q.trans HI.out.symm))) (by rw [← PQ.out]; exact hin), ← PQ.out])
              rw [show decide (p ∈ parts x 3 j) = false by simp [hin]] at hlk
              have hst := run_part_store W5 S5 hin
              have hms : mb < W5.heap.size := (Array.getElem?_eq_some_iff.1 S5).1
              unfold numw at hlk hst
              rw [show (fun x : Nat => Value.int .u16 (x : Int)) = numw from rfl] at hst
              have HST := Lib.hid hst
              clear S5 hlh hin hst
              go_wp2_with fail
              rw [HST.out]
              have KS := Lib.hid (KK5.out.trans (set_keepY W5 mb (mapObj numw boolv (trm (parts x 3 j ++ [p])))))
              have SS := Lib.hid (set_new hms (mapObj numw boolv (trm (parts x 3 j ++ [p]))))
              generalize ChangeMaps.setBlock W5 mb (mapObj numw boolv (trm (parts x 3 j ++ [p]))) = W6 at *
              clear hlk
              go_wp2_with fail
              go_roundw
              case rel => exact ⟨j + 1, by go_num, by rw [PE.out]; simp; omega, by omega, KS.out, by rw [PE.out]; exact SS.out⟩
              case measure => simp [intOf] <;> omega
        · have hj' : j = 8 := by omega
          subst hj'
          go_wp2_with fail
          go_roundw
          case rel => exact ⟨3 + 1, by go_num, by simp [sumP], by omega, below_of_keepY HB.out R.out.keep⟩
          case measure => simp [intOf] <;> omega
    · have hs : sumP x 4 = (visit ns f []).length := by
        rw [size_parts A4.out.wf T1.out.lt hz]
        simp [sumP]
      rw [hs]
      have l0 := A4.out.wf.two
      go_wp2_with fail
      refine (tsize_any (A4.out.below B.out) f T1.out.lt).mono ?_
      rintro e w6 ⟨rfl, hb⟩
      have B6 := Lib.hid (below_trans B.out hb); clear hb
      go_wp2_with fail
      refine (tsize_any (A4.out.below B6.out) 0 (by omega)).mono ?_
      rintro e w7 ⟨rfl, hb⟩
      rw [visit_low _ _ _ (by omega)]
      have B7 := Lib.hid (below_trans B6.out hb); clear hb
      go_wp2_with fail
      refine (tsize_any (A4.out.below B7.out) 1 (by omega)).mono ?_
      rintro e w8 ⟨rfl, hb⟩
      rw [visit_low _ _ _ (by omega)]
      have B8 := Lib.hid (below_trans B7.out hb); clear hb
      go_wp2_with fail
      go_ret
      exact ⟨rfl, below_trans B1.out (below_of_keep (K4.out.trans (Keep.below B8.out)))⟩
end Go.Proofs.Ytbceacihkdmgkaa
