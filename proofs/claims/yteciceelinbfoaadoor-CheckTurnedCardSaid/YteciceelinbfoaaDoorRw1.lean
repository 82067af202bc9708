import Derived.Test.YteciceelinbfoaaDoorMkp
set_option linter.unusedVariables false
namespace Go.Proofs.YteciceelinbfoaaDoor
open Go.RowKit Mq

def rulc (r : Rul) : List Value := [.int .u8 r.t, .int .u8 r.w, .int .u8 r.o, .int .u8 r.d, .int .u8 r.m, .int .u8 r.p]
def rulv (r : Rul) : Value := .agg #[.int .u8 r.t, .int .u8 r.w, .int .u8 r.o, .int .u8 r.d, .int .u8 r.m, .int .u8 r.p]
def ruleCl (r : Rul) : Cl :=
  { any := decide (r.t % 3 = 0), px := if r.t % 3 = 0 then noPfx else mkP r.t, wi := if 100 < r.w then 0 else r.w % 16, out := if 60 < r.o then 0 else r.o % 16, drop := decide (r.d % 4 = 3),
    set := r.d / 16, clr := r.m / 16, more := ((r.m % 4 : Nat) : Int), pref := if r.p < 200 then 0 else ((r.p : Nat) : Int) }
theorem ruleCl_ok {r : Rul} (h : r.Ok) : (ruleCl r).Ok := by
  obtain ⟨h1, h2, h3, h4, h5, h6⟩ := h
  refine ⟨?_, ?_, ?_, ?_, ?_, ?_, ?_⟩ <;> simp only [ruleCl]
  · split
    · exact noPfx_ok
    · exact mkP_ok h1
  · split <;> omega
  · split <;> omega
  · omega
  · omega
  · unfold is64; omega
  · unfold is64; split <;> omega
theorem eqk_dec (n k : Nat) (z : Int) (hz : z = (k : Int)) : (((n : Nat) : Int) == z) = decide (n = k) := by subst hz; exact eqn_dec n k
theorem eqk3 (n : Nat) : ((n : Int) % 4 == 3) = decide (n % 4 = 3) := by rw [Bool.eq_iff_iff]; simp; omega
theorem has10 {w : World} {b : Nat} {x0 x1 x2 x3 x4 x5 x6 x7 x8 x9 : Value} (h : ∀ i, w.cell? ⟨b, i, none⟩ = #[x0, x1, x2, x3, x4, x5, x6, x7, x8, x9][i]?) :
    w.cell? ⟨b, 0, none⟩ = some x0 ∧ w.cell? ⟨b, 1, none⟩ = some x1 ∧ w.cell? ⟨b, 2, none⟩ = some x2 ∧ w.cell? ⟨b, 3, none⟩ = some x3 ∧ w.cell? ⟨b, 4, none⟩ = some x4 ∧
    w.cell? ⟨b, 5, none⟩ = some x5 ∧ w.cell? ⟨b, 6, none⟩ = some x6 ∧ w.cell? ⟨b, 7, none⟩ = some x7 ∧ w.cell? ⟨b, 8, none⟩ = some x8 ∧ w.cell? ⟨b, 9, none⟩ = some x9 := ⟨h 0, h 1, h 2, h 3, h 4, h 5, h 6, h 7, h 8, h 9⟩
set_option maxRecDepth 100000 in
set_option maxHeartbeats 1000000 in
theorem rule_1111 (r : Rul) (hr : r.Ok) (w : World) (cW : 100 < r.w) (cO : 60 < r.o) (cP : r.p < 200) (cA : r.t % 3 = 0) : Calls Tryd.prog 27 #[.agg #[.int .u8 r.t, .int .u8 r.w, .int .u8 r.o, .int .u8 r.d, .int .u8 r.m, .int .u8 r.p]] w fun e w' => e = .returned (clv (ruleCl r)) ∧ Below w.heap.size w w' := by
  have h1 := hr.t
  have h2 := hr.w
  have h3 := hr.o
  have h4 := hr.d
  have h5 := hr.m
  have h6 := hr.p
  have hu : IntKind.u8.signed = false := rfl
  have HR : Hid (clv (ruleCl r) = .agg #[.bool true, .int .u32 0, .int .i64 0, .int .u8 (0), .int .u8 (0), .bool (decide (r.d % 4 = 3)), .int .u8 ((r.d : Int) / 16), .int .u8 ((r.m : Int) / 16), .int .i64 ((r.m : Int) % 4), .int .i64 (0)]) := Lib.hid (by simp [clv, ruleCl, cW, cO, cP, cA, noPfx])
  have k1 : decide (100 < (r.w : Int)) = true := by simp; omega
  have k2 : decide (60 < (r.o : Int)) = true := by simp; omega
  have k3 : decide ((r.p : Int) < 200) = true := by simp; omega
  have k4 : ((r.t : Int) % 3 == 0) = true := by simp; omega
  have k5 : ((r.d : Int) % 4 == 3) = decide (r.d % 4 = 3) := eqk3 r.d
  clear cW cO cP cA
  go_enter Tryd.func27, Tryd.ntmps27
  go_wp2_with fail
  refine bodyPost_ret (v := .agg #[.bool true, .int .u32 0, .int .i64 0, .int .u8 (0), .int .u8 (0), .bool (decide (r.d % 4 = 3)), .int .u8 ((r.d : Int) / 16), .int .u8 ((r.m : Int) / 16), .int .i64 ((r.m : Int) % 4), .int .i64 (0)]) (by simp [results, Tryd.results27, go_sem, *]) rfl ⟨by rw [HR.out], ?_⟩
  repeat (first | refine Below.setCell ?_ (by simp <;> omega) _ | refine Below.alloc ?_ (by simp <;> omega) _)
  exact Below.refl _ _
set_option maxRecDepth 100000 in
set_option maxHeartbeats 1000000 in
theorem rule_1110 (r : Rul) (hr : r.Ok) (w : World) (cW : 100 < r.w) (cO : 60 < r.o) (cP : r.p < 200) (cA : ¬ r.t % 3 = 0) : Calls Tryd.prog 27 #[.agg #[.int .u8 r.t, .int .u8 r.w, .int .u8 r.o, .int .u8 r.d, .int .u8 r.m, .int .u8 r.p]] w fun e w' => e = .returned (clv (ruleCl r)) ∧ Below w.heap.size w w' := by
  have h1 := hr.t
  have h2 := hr.w
  have h3 := hr.o
  have h4 := hr.d
  have h5 := hr.m
  have h6 := hr.p
  have hu : IntKind.u8.signed = false := rfl
  have HR : Hid (clv (ruleCl r) = .agg #[.bool false, .int .u32 ((mkP r.t).addr : Int), .int .i64 (mkP r.t).bits, .int .u8 (0), .int .u8 (0), .bool (decide (r.d % 4 = 3)), .int .u8 ((r.d : Int) / 16), .int .u8 ((r.m : Int) / 16), .int .i64 ((r.m : Int) % 4), .int .i64 (0)]) := Lib.hid (by simp [clv, ruleCl, cW, cO, cP, cA])
  have k1 : decide (100 < (r.w : Int)) = true := by simp; omega
  have k2 : decide (60 < (r.o : Int)) = true := by simp; omega
  have k3 : decide ((r.p : Int) < 200) = true := by simp; omega
  have k4 : ((r.t : Int) % 3 == 0) = false := by simp; omega
  have k5 : ((r.d : Int) % 4 == 3) = decide (r.d % 4 = 3) := eqk3 r.d
  clear cW cO cP cA
  go_enter Tryd.func27, Tryd.ntmps27
  go_wp2_with fail
  refine (make_any r.t h1 _).mono ?_
  rintro e w1 ⟨rfl, hb1⟩
  unfold pfxv
  have t0 := gb_blk hb1 (gb_new _ _) (by simp)
  have t1 := gb_blk hb1 (gb_old _ _ (gb_new _ _)) (by simp)
  have hB := gb_trans (gb_alloc (gb_alloc (gb_alloc (Below.refl w.heap.size w) _) _) _) hb1
  simp only [World.size_alloc] at t0 t1
  have B := Lib.hid hB
  have x0 : w1.cell? ⟨w.heap.size + 1 + 1, 0, none⟩ = some (.bool false) := gb_cell t0 0
  have x1 : w1.cell? ⟨w.heap.size + 1 + 1, 1, none⟩ = some (.int .u32 0) := gb_cell t0 1
  have x2 : w1.cell? ⟨w.heap.size + 1 + 1, 2, none⟩ = some (.int .i64 0) := gb_cell t0 2
  have x3 : w1.cell? ⟨w.heap.size + 1 + 1, 3, none⟩ = some (.int .u8 (0)) := gb_cell t0 3
  have x4 : w1.cell? ⟨w.heap.size + 1 + 1, 4, none⟩ = some (.int .u8 (0)) := gb_cell t0 4
  have x5 : w1.cell? ⟨w.heap.size + 1 + 1, 5, none⟩ = some (.bool (decide (r.d % 4 = 3))) := gb_cell t0 5
  have x6 : w1.cell? ⟨w.heap.size + 1 + 1, 6, none⟩ = some (.int .u8 ((r.d : Int) / 16)) := gb_cell t0 6
  have x7 : w1.cell? ⟨w.heap.size + 1 + 1, 7, none⟩ = some (.int .u8 ((r.m : Int) / 16)) := gb_cell t0 7
  have x8 : w1.cell? ⟨w.heap.size + 1 + 1, 8, none⟩ = some (.int .i64 ((r.m : Int) % 4)) := gb_cell t0 8
  have x9 : w1.cell? ⟨w.heap.size + 1 + 1, 9, none⟩ = some (.int .i64 (0)) := gb_cell t0 9
  obtain ⟨y0, y1, y2, y3, y4, y5, y6, y7, y8, y9⟩ := has10 (gb_cell t1)
  have f1 := gb_free t0 1
  have f2 := gb_free t0 2
  have g0 := gb_free t1 0
  have g1 := gb_free t1 1
  have g2 := gb_free t1 2
  have g3 := gb_free t1 3
  have g4 := gb_free t1 4
  have g5 := gb_free t1 5
  have g6 := gb_free t1 6
  have g7 := gb_free t1 7
  have g8 := gb_free t1 8
  have g9 := gb_free t1 9
  have s1 := gb_lt t0
  have s2 := gb_lt t1
  clear t0 t1 hb1 hB
  go_wp2_with fail
  refine bodyPost_ret (v := .agg #[.bool false, .int .u32 ((mkP r.t).addr : Int), .int .i64 (mkP r.t).bits, .int .u8 (0), .int .u8 (0), .bool (decide (r.d % 4 = 3)), .int .u8 ((r.d : Int) / 16), .int .u8 ((r.m : Int) / 16), .int .i64 ((r.m : Int) % 4), .int .i64 (0)]) (by simp [results, Tryd.results27, go_sem, *]) rfl ⟨by rw [HR.out], ?_⟩
  repeat (first | refine Below.setCell ?_ (by simp <;> omega) _ | refine Below.alloc ?_ (by simp <;> omega) _)
  exact B.out
set_option maxRecDepth 100000 in
set_option maxHeartbeats 1000000 in
theorem rule_1101 (r : Rul) (hr : r.Ok) (w : World) (cW : 100 < r.w) (cO : 60 < r.o) (cP : ¬ r.p < 200) (cA : r.t % 3 = 0) : Calls Tryd.prog 27 #[.agg #[.int .u8 r.t, .int .u8 r.w, .int .u8 r.o, .int .u8 r.d, .int .u8 r.m, .int .u8 r.p]] w fun e w' => e = .returned (clv (ruleCl r)) ∧ Below w.heap.size w w' := by
  have h1 := hr.t
  have h2 := hr.w
  have h3 := hr.o
  have h4 := hr.d
  have h5 := hr.m
  have h6 := hr.p
  have hu : IntKind.u8.signed = false := rfl
  have HR : Hid (clv (ruleCl r) = .agg #[.bool true, .int .u32 0, .int .i64 0, .int .u8 (0), .int .u8 (0), .bool (decide (r.d % 4 = 3)), .int .u8 ((r.d : Int) / 16), .int .u8 ((r.m : Int) / 16), .int .i64 ((r.m : Int) % 4), .int .i64 ((r.p : Int))]) := Lib.hid (by simp [clv, ruleCl, cW, cO, cP, cA, noPfx])
  have k1 : decide (100 < (r.w : Int)) = true := by simp; omega
  have k2 : decide (60 < (r.o : Int)) = true := by simp; omega
  have k3 : decide ((r.p : Int) < 200) = false := by simp; omega
  have k4 : ((r.t : Int) % 3 == 0) = true := by simp; omega
  have k5 : ((r.d : Int) % 4 == 3) = decide (r.d % 4 = 3) := eqk3 r.d
  clear cW cO cP cA
  go_enter Tryd.func27, Tryd.ntmps27
  go_wp2_with fail
  refine bodyPost_ret (v := .agg #[.bool true, .int .u32 0, .int .i64 0, .int .u8 (0), .int .u8 (0), .bool (decide (r.d % 4 = 3)), .int .u8 ((r.d : Int) / 16), .int .u8 ((r.m : Int) / 16), .int .i64 ((r.m : Int) % 4), .int .i64 ((r.p : Int))]) (by simp [results, Tryd.results27, go_sem, *]) rfl ⟨by rw [HR.out], ?_⟩
  repeat (first | refine Below.setCell ?_ (by simp <;> omega) _ | refine Below.alloc ?_ (by simp <;> omega) _)
  exact Below.refl _ _
set_option maxRecDepth 100000 in
set_option maxHeartbeats 1000000 in
theorem rule_1100 (r : Rul) (hr : r.Ok) (w : World) (cW : 100 < r.w) (cO : 60 < r.o) (cP : ¬ r.p < 200) (cA : ¬ r.t % 3 = 0) : Calls Tryd.prog 27 #[.agg #[.int .u8 r.t, .int .u8 r.w, .int .u8 r.o, .int .u8 r.d, .int .u8 r.m, .int .u8 r.p]] w fun e w' => e = .returned (clv (ruleCl r)) ∧ Below w.heap.size w w' := by
  have h1 := hr.t
  have h2 := hr.w
  have h3 := hr.o
  have h4 := hr.d
  have h5 := hr.m
  have h6 := hr.p
  have hu : IntKind.u8.signed = false := rfl
  have HR : Hid (clv (ruleCl r) = .agg #[.bool false, .int .u32 ((mkP r.t).addr : Int), .int .i64 (mkP r.t).bits, .int .u8 (0), .int .u8 (0), .bool (decide (r.d % 4 = 3)), .int .u8 ((r.d : Int) / 16), .int .u8 ((r.m : Int) / 16), .int .i64 ((r.m : Int) % 4), .int .i64 ((r.p : Int))]) := Lib.hid (by simp [clv, ruleCl, cW, cO, cP, cA])
  have k1 : decide (100 < (r.w : Int)) = true := by simp; omega
  have k2 : decide (60 < (r.o : Int)) = true := by simp; omega
  have k3 : decide ((r.p : Int) < 200) = false := by simp; omega
  have k4 : ((r.t : Int) % 3 == 0) = false := by simp; omega
  have k5 : ((r.d : Int) % 4 == 3) = decide (r.d % 4 = 3) := eqk3 r.d
  clear cW cO cP cA
  go_enter Tryd.func27, Tryd.ntmps27
  go_wp2_with fail
  refine (make_any r.t h1 _).mono ?_
  rintro e w1 ⟨rfl, hb1⟩
  unfold pfxv
  have t0 := gb_blk hb1 (gb_new _ _) (by simp)
  have t1 := gb_blk hb1 (gb_old _ _ (gb_new _ _)) (by simp)
  have hB := gb_trans (gb_alloc (gb_alloc (gb_alloc (Below.refl w.heap.size w) _) _) _) hb1
  simp only [World.size_alloc] at t0 t1
  have B := Lib.hid hB
  have x0 : w1.cell? ⟨w.heap.size + 1 + 1, 0, none⟩ = some (.bool false) := gb_cell t0 0
  have x1 : w1.cell? ⟨w.heap.size + 1 + 1, 1, none⟩ = some (.int .u32 0) := gb_cell t0 1
  have x2 : w1.cell? ⟨w.heap.size + 1 + 1, 2, none⟩ = some (.int .i64 0) := gb_cell t0 2
  have x3 : w1.cell? ⟨w.heap.size + 1 + 1, 3, none⟩ = some (.int .u8 (0)) := gb_cell t0 3
  have x4 : w1.cell? ⟨w.heap.size + 1 + 1, 4, none⟩ = some (.int .u8 (0)) := gb_cell t0 4
  have x5 : w1.cell? ⟨w.heap.size + 1 + 1, 5, none⟩ = some (.bool (decide (r.d % 4 = 3))) := gb_cell t0 5
  have x6 : w1.cell? ⟨w.heap.size + 1 + 1, 6, none⟩ = some (.int .u8 ((r.d : Int) / 16)) := gb_cell t0 6
  have x7 : w1.cell? ⟨w.heap.size + 1 + 1, 7, none⟩ = some (.int .u8 ((r.m : Int) / 16)) := gb_cell t0 7
  have x8 : w1.cell? ⟨w.heap.size + 1 + 1, 8, none⟩ = some (.int .i64 ((r.m : Int) % 4)) := gb_cell t0 8
  have x9 : w1.cell? ⟨w.heap.size + 1 + 1, 9, none⟩ = some (.int .i64 ((r.p : Int))) := gb_cell t0 9
  obtain ⟨y0, y1, y2, y3, y4, y5, y6, y7, y8, y9⟩ := has10 (gb_cell t1)
  have f1 := gb_free t0 1
  have f2 := gb_free t0 2
  have g0 := gb_free t1 0
  have g1 := gb_free t1 1
  have g2 := gb_free t1 2
  have g3 := gb_free t1 3
  have g4 := gb_free t1 4
  have g5 := gb_free t1 5
  have g6 := gb_free t1 6
  have g7 := gb_free t1 7
  have g8 := gb_free t1 8
  have g9 := gb_free t1 9
  have s1 := gb_lt t0
  have s2 := gb_lt t1
  clear t0 t1 hb1 hB
  go_wp2_with fail
  refine bodyPost_ret (v := .agg #[.bool false, .int .u32 ((mkP r.t).addr : Int), .int .i64 (mkP r.t).bits, .int .u8 (0), .int .u8 (0), .bool (decide (r.d % 4 = 3)), .int .u8 ((r.d : Int) / 16), .int .u8 ((r.m : Int) / 16), .int .i64 ((r.m : Int) % 4), .int .i64 ((r.p : Int))]) (by simp [results, Tryd.results27, go_sem, *]) rfl ⟨by rw [HR.out], ?_⟩
  repeat (first | refine Below.setCell ?_ (by simp <;> omega) _ | refine Below.alloc ?_ (by simp <;> omega) _)
  exact B.out
set_option maxRecDepth 100000 in
set_option maxHeartbeats 1000000 in
theorem rule_1011 (r : Rul) (hr : r.Ok) (w : World) (cW : 100 < r.w) (cO : ¬ 60 < r.o) (cP : r.p < 200) (cA : r.t % 3 = 0) : Calls Tryd.prog 27 #[.agg #[.int .u8 r.t, .int .u8 r.w, .int .u8 r.o, .int .u8 r.d, .int .u8 r.m, .int .u8 r.p]] w fun e w' => e = .returned (clv (ruleCl r)) ∧ Below w.heap.size w w' := by
  have h1 := hr.t
  have h2 := hr.w
  have h3 := hr.o
  have h4 := hr.d
  have h5 := hr.m
  have h6 := hr.p
  have hu : IntKind.u8.signed = false := rfl
  have HR : Hid (clv (ruleCl r) = .agg #[.bool true, .int .u32 0, .int .i64 0, .int .u8 (0), .int .u8 ((r.o : Int) % 16), .bool (decide (r.d % 4 = 3)), .int .u8 ((r.d : Int) / 16), .int .u8 ((r.m : Int) / 16), .int .i64 ((r.m : Int) % 4), .int .i64 (0)]) := Lib.hid (by simp [clv, ruleCl, cW, cO, cP, cA, noPfx])
  have k1 : decide (100 < (r.w : Int)) = true := by simp; omega
  have k2 : decide (60 < (r.o : Int)) = false := by simp; omega
  have k3 : decide ((r.p : Int) < 200) = true := by simp; omega
  have k4 : ((r.t : Int) % 3 == 0) = true := by simp; omega
  have k5 : ((r.d : Int) % 4 == 3) = decide (r.d % 4 = 3) := eqk3 r.d
  clear cW cO cP cA
  go_enter Tryd.func27, Tryd.ntmps27
  go_wp2_with fail
  refine bodyPost_ret (v := .agg #[.bool true, .int .u32 0, .int .i64 0, .int .u8 (0), .int .u8 ((r.o : Int) % 16), .bool (decide (r.d % 4 = 3)), .int .u8 ((r.d : Int) / 16), .int .u8 ((r.m : Int) / 16), .int .i64 ((r.m : Int) % 4), .int .i64 (0)]) (by simp [results, Tryd.results27, go_sem, *]) rfl ⟨by rw [HR.out], ?_⟩
  repeat (first | refine Below.setCell ?_ (by simp <;> omega) _ | refine Below.alloc ?_ (by simp <;> omega) _)
  exact Below.refl _ _
set_option maxRecDepth 100000 in
set_option maxHeartbeats 1000000 in
theorem rule_1010 (r : Rul) (hr : r.Ok) (w : World) (cW : 100 < r.w) (cO : ¬ 60 < r.o) (cP : r.p < 200) (cA : ¬ r.t % 3 = 0) : Calls Tryd.prog 27 #[.agg #[.int .u8 r.t, .int .u8 r.w, .int .u8 r.o, .int .u8 r.d, .int .u8 r.m, .int .u8 r.p]] w fun e w' => e = .returned (clv (ruleCl r)) ∧ Below w.heap.size w w' := by
  have h1 := hr.t
  have h2 := hr.w
  have h3 := hr.o
  have h4 := hr.d
  have h5 := hr.m
  have h6 := hr.p
  have hu : IntKind.u8.signed = false := rfl
  have HR : Hid (clv (ruleCl r) = .agg #[.bool false, .int .u32 ((mkP r.t).addr : Int), .int .i64 (mkP r.t).bits, .int .u8 (0), .int .u8 ((r.o : Int) % 16), .bool (decide (r.d % 4 = 3)), .int .u8 ((r.d : Int) / 16), .int .u8 ((r.m : Int) / 16), .int .i64 ((r.m : Int) % 4), .int .i64 (0)]) := Lib.hid (by simp [clv, ruleCl, cW, cO, cP, cA])
  have k1 : decide (100 < (r.w : Int)) = true := by simp; omega
  have k2 : decide (60 < (r.o : Int)) = false := by simp; omega
  have k3 : decide ((r.p : Int) < 200) = true := by simp; omega
  have k4 : ((r.t : Int) % 3 == 0) = false := by simp; omega
  have k5 : ((r.d : Int) % 4 == 3) = decide (r.d % 4 = 3) := eqk3 r.d
  clear cW cO cP cA
  go_enter Tryd.func27, Tryd.ntmps27
  go_wp2_with fail
  refine (make_any r.t h1 _).mono ?_
  rintro e w1 ⟨rfl, hb1⟩
  unfold pfxv
  have t0 := gb_blk hb1 (gb_new _ _) (by simp)
  have t1 := gb_blk hb1 (gb_old _ _ (gb_new _ _)) (by simp)
  have hB := gb_trans (gb_alloc (gb_alloc (gb_alloc (Below.refl w.heap.size w) _) _) _) hb1
  simp only [World.size_alloc] at t0 t1
  have B := Lib.hid hB
  have x0 : w1.cell? ⟨w.heap.size + 1 + 1, 0, none⟩ = some (.bool false) := gb_cell t0 0
  have x1 : w1.cell? ⟨w.heap.size + 1 + 1, 1, none⟩ = some (.int .u32 0) := gb_cell t0 1
  have x2 : w1.cell? ⟨w.heap.size + 1 + 1, 2, none⟩ = some (.int .i64 0) := gb_cell t0 2
  have x3 : w1.cell? ⟨w.heap.size + 1 + 1, 3, none⟩ = some (.int .u8 (0)) := gb_cell t0 3
  have x4 : w1.cell? ⟨w.heap.size + 1 + 1, 4, none⟩ = some (.int .u8 ((r.o : Int) % 16)) := gb_cell t0 4
  have x5 : w1.cell? ⟨w.heap.size + 1 + 1, 5, none⟩ = some (.bool (decide (r.d % 4 = 3))) := gb_cell t0 5
  have x6 : w1.cell? ⟨w.heap.size + 1 + 1, 6, none⟩ = some (.int .u8 ((r.d : Int) / 16)) := gb_cell t0 6
  have x7 : w1.cell? ⟨w.heap.size + 1 + 1, 7, none⟩ = some (.int .u8 ((r.m : Int) / 16)) := gb_cell t0 7
  have x8 : w1.cell? ⟨w.heap.size + 1 + 1, 8, none⟩ = some (.int .i64 ((r.m : Int) % 4)) := gb_cell t0 8
  have x9 : w1.cell? ⟨w.heap.size + 1 + 1, 9, none⟩ = some (.int .i64 (0)) := gb_cell t0 9
  obtain ⟨y0, y1, y2, y3, y4, y5, y6, y7, y8, y9⟩ := has10 (gb_cell t1)
  have f1 := gb_free t0 1
  have f2 := gb_free t0 2
  have g0 := gb_free t1 0
  have g1 := gb_free t1 1
  have g2 := gb_free t1 2
  have g3 := gb_free t1 3
  have g4 := gb_free t1 4
  have g5 := gb_free t1 5
  have g6 := gb_free t1 6
  have g7 := gb_free t1 7
  have g8 := gb_free t1 8
  have g9 := gb_free t1 9
  have s1 := gb_lt t0
  have s2 := gb_lt t1
  clear t0 t1 hb1 hB
  go_wp2_with fail
  refine bodyPost_ret (v := .agg #[.bool false, .int .u32 ((mkP r.t).addr : Int), .int .i64 (mkP r.t).bits, .int .u8 (0), .int .u8 ((r.o : Int) % 16), .bool (decide (r.d % 4 = 3)), .int .u8 ((r.d : Int) / 16), .int .u8 ((r.m : Int) / 16), .int .i64 ((r.m : Int) % 4), .int .i64 (0)]) (by simp [results, Tryd.results27, go_sem, *]) rfl ⟨by rw [HR.out], ?_⟩
  repeat (first | refine Below.setCell ?_ (by simp <;> omega) _ | refine Below.alloc ?_ (by simp <;> omega) _)
  exact B.out
set_option maxRecDepth 100000 in
set_option maxHeartbeats 1000000 in
theorem rule_1001 (r : Rul) (hr : r.Ok) (w : World) (cW : 100 < r.w) (cO : ¬ 60 < r.o) (cP : ¬ r.p < 200) (cA : r.t % 3 = 0) : Calls Tryd.prog 27 #[.agg #[.int .u8 r.t, .int .u8 r.w, .int .u8 r.o, .int .u8 r.d, .int .u8 r.m, .int .u8 r.p]] w fun e w' => e = .returned (clv (ruleCl r)) ∧ Below w.heap.size w w' := by
  have h1 := hr.t
  have h2 := hr.w
  have h3 := hr.o
  have h4 := hr.d
  have h5 := hr.m
  have h6 := hr.p
  have hu : IntKind.u8.signed = false := rfl
  have HR : Hid (clv (ruleCl r) = .agg #[.bool true, .int .u32 0, .int .i64 0, .int .u8 (0), .int .u8 ((r.o : Int) % 16), .bool (decide (r.d % 4 = 3)), .int .u8 ((r.d : Int) / 16), .int .u8 ((r.m : Int) / 16), .int .i64 ((r.m : Int) % 4), .int .i64 ((r.p : Int))]) := Lib.hid (by simp [clv, ruleCl, cW, cO, cP, cA, noPfx])
  have k1 : decide (100 < (r.w : Int)) = true := by simp; omega
  have k2 : decide (60 < (r.o : Int)) = false := by simp; omega
  have k3 : decide ((r.p : Int) < 200) = false := by simp; omega
  have k4 : ((r.t : Int) % 3 == 0) = true := by simp; omega
  have k5 : ((r.d : Int) % 4 == 3) = decide (r.d % 4 = 3) := eqk3 r.d
  clear cW cO cP cA
  go_enter Tryd.func27, Tryd.ntmps27
  go_wp2_with fail
  refine bodyPost_ret (v := .agg #[.bool true, .int .u32 0, .int .i64 0, .int .u8 (0), .int .u8 ((r.o : Int) % 16), .bool (decide (r.d % 4 = 3)), .int .u8 ((r.d : Int) / 16), .int .u8 ((r.m : Int) / 16), .int .i64 ((r.m : Int) % 4), .int .i64 ((r.p : Int))]) (by simp [results, Tryd.results27, go_sem, *]) rfl ⟨by rw [HR.out], ?_⟩
  repeat (first | refine Below.setCell ?_ (by simp <;> omega) _ | refine Below.alloc ?_ (by simp <;> omega) _)
  exact Below.refl _ _
set_option maxRecDepth 100000 in
set_option maxHeartbeats 1000000 in
theorem rule_1000 (r : Rul) (hr : r.Ok) (w : World) (cW : 100 < r.w) (cO : ¬ 60 < r.o) (cP : ¬ r.p < 200) (cA : ¬ r.t % 3 = 0) : Calls Tryd.prog 27 #[.agg #[.int .u8 r.t, .int .u8 r.w, .int .u8 r.o, .int .u8 r.d, .int .u8 r.m, .int .u8 r.p]] w fun e w' => e = .returned (clv (ruleCl r)) ∧ Below w.heap.size w w' := by
  have h1 := hr.t
  have h2 := hr.w
  have h3 := hr.o
  have h4 := hr.d
  have h5 := hr.m
  have h6 := hr.p
  have hu : IntKind.u8.signed = false := rfl
  have HR : Hid (clv (ruleCl r) = .agg #[.bool false, .int .u32 ((mkP r.t).addr : Int), .int .i64 (mkP r.t).bits, .int .u8 (0), .int .u8 ((r.o : Int) % 16), .bool (decide (r.d % 4 = 3)), .int .u8 ((r.d : Int) / 16), .int .u8 ((r.m : Int) / 16), .int .i64 ((r.m : Int) % 4), .int .i64 ((r.p : Int))]) := Lib.hid (by simp [clv, ruleCl, cW, cO, cP, cA])
  have k1 : decide (100 < (r.w : Int)) = true := by simp; omega
  have k2 : decide (60 < (r.o : Int)) = false := by simp; omega
  have k3 : decide ((r.p : Int) < 200) = false := by simp; omega
  have k4 : ((r.t : Int) % 3 == 0) = false := by simp; omega
  have k5 : ((r.d : Int) % 4 == 3) = decide (r.d % 4 = 3) := eqk3 r.d
  clear cW cO cP cA
  go_enter Tryd.func27, Tryd.ntmps27
  go_wp2_with fail
  refine (make_any r.t h1 _).mono ?_
  rintro e w1 ⟨rfl, hb1⟩
  unfold pfxv
  have t0 := gb_blk hb1 (gb_new _ _) (by simp)
  have t1 := gb_blk hb1 (gb_old _ _ (gb_new _ _)) (by simp)
  have hB := gb_trans (gb_alloc (gb_alloc (gb_alloc (Below.refl w.heap.size w) _) _) _) hb1
  simp only [World.size_alloc] at t0 t1
  have B := Lib.hid hB
  have x0 : w1.cell? ⟨w.heap.size + 1 + 1, 0, none⟩ = some (.bool false) := gb_cell t0 0
  have x1 : w1.cell? ⟨w.heap.size + 1 + 1, 1, none⟩ = some (.int .u32 0) := gb_cell t0 1
  have x2 : w1.cell? ⟨w.heap.size + 1 + 1, 2, none⟩ = some (.int .i64 0) := gb_cell t0 2
  have x3 : w1.cell? ⟨w.heap.size + 1 + 1, 3, none⟩ = some (.int .u8 (0)) := gb_cell t0 3
  have x4 : w1.cell? ⟨w.heap.size + 1 + 1, 4, none⟩ = some (.int .u8 ((r.o : Int) % 16)) := gb_cell t0 4
  have x5 : w1.cell? ⟨w.heap.size + 1 + 1, 5, none⟩ = some (.bool (decide (r.d % 4 = 3))) := gb_cell t0 5
  have x6 : w1.cell? ⟨w.heap.size + 1 + 1, 6, none⟩ = some (.int .u8 ((r.d : Int) / 16)) := gb_cell t0 6
  have x7 : w1.cell? ⟨w.heap.size + 1 + 1, 7, none⟩ = some (.int .u8 ((r.m : Int) / 16)) := gb_cell t0 7
  have x8 : w1.cell? ⟨w.heap.size + 1 + 1, 8, none⟩ = some (.int .i64 ((r.m : Int) % 4)) := gb_cell t0 8
  have x9 : w1.cell? ⟨w.heap.size + 1 + 1, 9, none⟩ = some (.int .i64 ((r.p : Int))) := gb_cell t0 9
  obtain ⟨y0, y1, y2, y3, y4, y5, y6, y7, y8, y9⟩ := has10 (gb_cell t1)
  have f1 := gb_free t0 1
  have f2 := gb_free t0 2
  have g0 := gb_free t1 0
  have g1 := gb_free t1 1
  have g2 := gb_free t1 2
  have g3 := gb_free t1 3
  have g4 := gb_free t1 4
  have g5 := gb_free t1 5
  have g6 := gb_free t1 6
  have g7 := gb_free t1 7
  have g8 := gb_free t1 8
  have g9 := gb_free t1 9
  have s1 := gb_lt t0
  have s2 := gb_lt t1
  clear t0 t1 hb1 hB
  go_wp2_with fail
  refine bodyPost_ret (v := .agg #[.bool false, .int .u32 ((mkP r.t).addr : Int), .int .i64 (mkP r.t).bits, .int .u8 (0), .int .u8 ((r.o : Int) % 16), .bool (decide (r.d % 4 = 3)), .int .u8 ((r.d : Int) / 16), .int .u8 ((r.m : Int) / 16), .int .i64 ((r.m : Int) % 4), .int .i64 ((r.p : Int))]) (by simp [results, Tryd.results27, go_sem, *]) rfl ⟨by rw [HR.out], ?_⟩
  repeat (first | refine Below.setCell ?_ (by simp <;> omega) _ | refine Below.alloc ?_ (by simp <;> omega) _)
  exact B.out
set_option maxRecDepth 100000 in
set_option maxHeartbeats 1000000 in
theorem rule_0111 (r : Rul) (hr : r.Ok) (w : World) (cW : ¬ 100 < r.w) (cO : 60 < r.o) (cP : r.p < 200) (cA : r.t % 3 = 0) : Calls Tryd.prog 27 #[.agg #[.int .u8 r.t, .int .u8 r.w, .int .u8 r.o, .int .u8 r.d, .int .u8 r.m, .int .u8 r.p]] w fun e w' => e = .returned (clv (ruleCl r)) ∧ Below w.heap.size w w' := by
  have h1 := hr.t
  have h2 := hr.w
  have h3 := hr.o
  have h4 := hr.d
  have h5 := hr.m
  have h6 := hr.p
  have hu : IntKind.u8.signed = false := rfl
  have HR : Hid (clv (ruleCl r) = .agg #[.bool true, .int .u32 0, .int .i64 0, .int .u8 ((r.w : Int) % 16), .int .u8 (0), .bool (decide (r.d % 4 = 3)), .int .u8 ((r.d : Int) / 16), .int .u8 ((r.m : Int) / 16), .int .i64 ((r.m : Int) % 4), .int .i64 (0)]) := Lib.hid (by simp [clv, ruleCl, cW, cO, cP, cA, noPfx])
  have k1 : decide (100 < (r.w : Int)) = false := by simp; omega
  have k2 : decide (60 < (r.o : Int)) = true := by simp; omega
  have k3 : decide ((r.p : Int) < 200) = true := by simp; omega
  have k4 : ((r.t : Int) % 3 == 0) = true := by simp; omega
  have k5 : ((r.d : Int) % 4 == 3) = decide (r.d % 4 = 3) := eqk3 r.d
  clear cW cO cP cA
  go_enter Tryd.func27, Tryd.ntmps27
  go_wp2_with fail
  refine bodyPost_ret (v := .agg #[.bool true, .int .u32 0, .int .i64 0, .int .u8 ((r.w : Int) % 16), .int .u8 (0), .bool (decide (r.d % 4 = 3)), .int .u8 ((r.d : Int) / 16), .int .u8 ((r.m : Int) / 16), .int .i64 ((r.m : Int) % 4), .int .i64 (0)]) (by simp [results, Tryd.results27, go_sem, *]) rfl ⟨by rw [HR.out], ?_⟩
  repeat (first | refine Below.setCell ?_ (by simp <;> omega) _ | refine Below.alloc ?_ (by simp <;> omega) _)
  exact Below.refl _ _
set_option maxRecDepth 100000 in
set_option maxHeartbeats 1000000 in
theorem rule_0110 (r : Rul) (hr : r.Ok) (w : World) (cW : ¬ 100 < r.w) (cO : 60 < r.o) (cP : r.p < 200) (cA : ¬ r.t % 3 = 0) : Calls Tryd.prog 27 #[.agg #[.int .u8 r.t, .int .u8 r.w, .int .u8 r.o, .int .u8 r.d, .int .u8 r.m, .int .u8 r.p]] w fun e w' => e = .returned (clv (ruleCl r)) ∧ Below w.heap.size w w' := by
  have h1 := hr.t
  have h2 := hr.w
  have h3 := hr.o
  have h4 := hr.d
  have h5 := hr.m
  have h6 := hr.p
  have hu : IntKind.u8.signed = false := rfl
  have HR : Hid (clv (ruleCl r) = .agg #[.bool false, .int .u32 ((mkP r.t).addr : Int), .int .i64 (mkP r.t).bits, .int .u8 ((r.w : Int) % 16), .int .u8 (0), .bool (decide (r.d % 4 = 3)), .int .u8 ((r.d : Int) / 16), .int .u8 ((r.m : Int) / 16), .int .i64 ((r.m : Int) % 4), .int .i64 (0)]) := Lib.hid (by simp [clv, ruleCl, cW, cO, cP, cA])
  have k1 : decide (100 < (r.w : Int)) = false := by simp; omega
  have k2 : decide (60 < (r.o : Int)) = true := by simp; omega
  have k3 : decide ((r.p : Int) < 200) = true := by simp; omega
  have k4 : ((r.t : Int) % 3 == 0) = false := by simp; omega
  have k5 : ((r.d : Int) % 4 == 3) = decide (r.d % 4 = 3) := eqk3 r.d
  clear cW cO cP cA
  go_enter Tryd.func27, Tryd.ntmps27
  go_wp2_with fail
  refine (make_any r.t h1 _).mono ?_
  rintro e w1 ⟨rfl, hb1⟩
  unfold pfxv
  have t0 := gb_blk hb1 (gb_new _ _) (by simp)
  have t1 := gb_blk hb1 (gb_old _ _ (gb_new _ _)) (by simp)
  have hB := gb_trans (gb_alloc (gb_alloc (gb_alloc (Below.refl w.heap.size w) _) _) _) hb1
  simp only [World.size_alloc] at t0 t1
  have B := Lib.hid hB
  have x0 : w1.cell? ⟨w.heap.size + 1 + 1, 0, none⟩ = some (.bool false) := gb_cell t0 0
  have x1 : w1.cell? ⟨w.heap.size + 1 + 1, 1, none⟩ = some (.int .u32 0) := gb_cell t0 1
  have x2 : w1.cell? ⟨w.heap.size + 1 + 1, 2, none⟩ = some (.int .i64 0) := gb_cell t0 2
  have x3 : w1.cell? ⟨w.heap.size + 1 + 1, 3, none⟩ = some (.int .u8 ((r.w : Int) % 16)) := gb_cell t0 3
  have x4 : w1.cell? ⟨w.heap.size + 1 + 1, 4, none⟩ = some (.int .u8 (0)) := gb_cell t0 4
  have x5 : w1.cell? ⟨w.heap.size + 1 + 1, 5, none⟩ = some (.bool (decide (r.d % 4 = 3))) := gb_cell t0 5
  have x6 : w1.cell? ⟨w.heap.size + 1 + 1, 6, none⟩ = some (.int .u8 ((r.d : Int) / 16)) := gb_cell t0 6
  have x7 : w1.cell? ⟨w.heap.size + 1 + 1, 7, none⟩ = some (.int .u8 ((r.m : Int) / 16)) := gb_cell t0 7
  have x8 : w1.cell? ⟨w.heap.size + 1 + 1, 8, none⟩ = some (.int .i64 ((r.m : Int) % 4)) := gb_cell t0 8
  have x9 : w1.cell? ⟨w.heap.size + 1 + 1, 9, none⟩ = some (.int .i64 (0)) := gb_cell t0 9
  obtain ⟨y0, y1, y2, y3, y4, y5, y6, y7, y8, y9⟩ := has10 (gb_cell t1)
  have f1 := gb_free t0 1
  have f2 := gb_free t0 2
  have g0 := gb_free t1 0
  have g1 := gb_free t1 1
  have g2 := gb_free t1 2
  have g3 := gb_free t1 3
  have g4 := gb_free t1 4
  have g5 := gb_free t1 5
  have g6 := gb_free t1 6
  have g7 := gb_free t1 7
  have g8 := gb_free t1 8
  have g9 := gb_free t1 9
  have s1 := gb_lt t0
  have s2 := gb_lt t1
  clear t0 t1 hb1 hB
  go_wp2_with fail
  refine bodyPost_ret (v := .agg #[.bool false, .int .u32 ((mkP r.t).addr : Int), .int .i64 (mkP r.t).bits, .int .u8 ((r.w : Int) % 16), .int .u8 (0), .bool (decide (r.d % 4 = 3)), .int .u8 ((r.d : Int) / 16), .int .u8 ((r.m : Int) / 16), .int .i64 ((r.m : Int) % 4), .int .i64 (0)]) (by simp [results, Tryd.results27, go_sem, *]) rfl ⟨by rw [HR.out], ?_⟩
  repeat (first | refine Below.setCell ?_ (by simp <;> omega) _ | refine Below.alloc ?_ (by simp <;> omega) _)
  exact B.out
set_option maxRecDepth 100000 in
set_option maxHeartbeats 1000000 in
theorem rule_0101 (r : Rul) (hr : r.Ok) (w : World) (cW : ¬ 100 < r.w) (cO : 60 < r.o) (cP : ¬ r.p < 200) (cA : r.t % 3 = 0) : Calls Tryd.prog 27 #[.agg #[.int .u8 r.t, .int .u8 r.w, .int .u8 r.o, .int .u8 r.d, .int .u8 r.m, .int .u8 r.p]] w fun e w' => e = .returned (clv (ruleCl r)) ∧ Below w.heap.size w w' := by
  have h1 := hr.t
  have h2 := hr.w
  have h3 := hr.o
  have h4 := hr.d
  have h5 := hr.m
  have h6 := hr.p
  have hu : IntKind.u8.signed = false := rfl
  have HR : Hid (clv (ruleCl r) = .agg #[.bool true, .int .u32 0, .int .i64 0, .int .u8 ((r.w : Int) % 16), .int .u8 (0), .bool (decide (r.d % 4 = 3)), .int .u8 ((r.d : Int) / 16), .int .u8 ((r.m : Int) / 16), .int .i64 ((r.m : Int) % 4), .int .i64 ((r.p : Int))]) := Lib.hid (by simp [clv, ruleCl, cW, cO, cP, cA, noPfx])
  have k1 : decide (100 < (r.w : Int)) = false := by simp; omega
  have k2 : decide (60 < (r.o : Int)) = true := by simp; omega
  have k3 : decide ((r.p : Int) < 200) = false := by simp; omega
  have k4 : ((r.t : Int) % 3 == 0) = true := by simp; omega
  have k5 : ((r.d : Int) % 4 == 3) = decide (r.d % 4 = 3) := eqk3 r.d
  clear cW cO cP cA
  go_enter Tryd.func27, Tryd.ntmps27
  go_wp2_with fail
  refine bodyPost_ret (v := .agg #[.bool true, .int .u32 0, .int .i64 0, .int .u8 ((r.w : Int) % 16), .int .u8 (0), .bool (decide (r.d % 4 = 3)), .int .u8 ((r.d : Int) / 16), .int .u8 ((r.m : Int) / 16), .int .i64 ((r.m : Int) % 4), .int .i64 ((r.p : Int))]) (by simp [results, Tryd.results27, go_sem, *]) rfl ⟨by rw [HR.out], ?_⟩
  repeat (first | refine Below.setCell ?_ (by simp <;> omega) _ | refine Below.alloc ?_ (by simp <;> omega) _)
  exact Below.refl _ _
set_option maxRecDepth 100000 in
set_option maxHeartbeats 1000000 in
theorem rule_0100 (r : Rul) (hr : r.Ok) (w : World) (cW : ¬ 100 < r.w) (cO : 60 < r.o) (cP : ¬ r.p < 200) (cA : ¬ r.t % 3 = 0) : Calls Tryd.prog 27 #[.agg #[.int .u8 r.t, .int .u8 r.w, .int .u8 r.o, .int .u8 r.d, .int .u8 r.m, .int .u8 r.p]] w fun e w' => e = .returned (clv (ruleCl r)) ∧ Below w.heap.size w w' := by
  have h1 := hr.t
  have h2 := hr.w
  have h3 := hr.o
  have h4 := hr.d
  have h5 := hr.m
  have h6 := hr.p
  have hu : IntKind.u8.signed = false := rfl
  have HR : Hid (clv (ruleCl r) = .agg #[.bool false, .int .u32 ((mkP r.t).addr : Int), .int .i64 (mkP r.t).bits, .int .u8 ((r.w : Int) % 16), .int .u8 (0), .bool (decide (r.d % 4 = 3)), .int .u8 ((r.d : Int) / 16), .int .u8 ((r.m : Int) / 16), .int .i64 ((r.m : Int) % 4), .int .i64 ((r.p : Int))]) := Lib.hid (by simp [clv, ruleCl, cW, cO, cP, cA])
  have k1 : decide (100 < (r.w : Int)) = false := by simp; omega
  have k2 : decide (60 < (r.o : Int)) = true := by simp; omega
  have k3 : decide ((r.p : Int) < 200) = false := by simp; omega
  have k4 : ((r.t : Int) % 3 == 0) = false := by simp; omega
  have k5 : ((r.d : Int) % 4 == 3) = decide (r.d % 4 = 3) := eqk3 r.d
  clear cW cO cP cA
  go_enter Tryd.func27, Tryd.ntmps27
  go_wp2_with fail
  refine (make_any r.t h1 _).mono ?_
  rintro e w1 ⟨rfl, hb1⟩
  unfold pfxv
  have t0 := gb_blk hb1 (gb_new _ _) (by simp)
  have t1 := gb_blk hb1 (gb_old _ _ (gb_new _ _)) (by simp)
  have hB := gb_trans (gb_alloc (gb_alloc (gb_alloc (Below.refl w.heap.size w) _) _) _) hb1
  simp only [World.size_alloc] at t0 t1
  have B := Lib.hid hB
  have x0 : w1.cell? ⟨w.heap.size + 1 + 1, 0, none⟩ = some (.bool false) := gb_cell t0 0
  have x1 : w1.cell? ⟨w.heap.size + 1 + 1, 1, none⟩ = some (.int .u32 0) := gb_cell t0 1
  have x2 : w1.cell? ⟨w.heap.size + 1 + 1, 2, none⟩ = some (.int .i64 0) := gb_cell t0 2
  have x3 : w1.cell? ⟨w.heap.size + 1 + 1, 3, none⟩ = some (.int .u8 ((r.w : Int) % 16)) := gb_cell t0 3
  have x4 : w1.cell? ⟨w.heap.size + 1 + 1, 4, none⟩ = some (.int .u8 (0)) := gb_cell t0 4
  have x5 : w1.cell? ⟨w.heap.size + 1 + 1, 5, none⟩ = some (.bool (decide (r.d % 4 = 3))) := gb_cell t0 5
  have x6 : w1.cell? ⟨w.heap.size + 1 + 1, 6, none⟩ = some (.int .u8 ((r.d : Int) / 16)) := gb_cell t0 6
  have x7 : w1.cell? ⟨w.heap.size + 1 + 1, 7, none⟩ = some (.int .u8 ((r.m : Int) / 16)) := gb_cell t0 7
  have x8 : w1.cell? ⟨w.heap.size + 1 + 1, 8, none⟩ = some (.int .i64 ((r.m : Int) % 4)) := gb_cell t0 8
  have x9 : w1.cell? ⟨w.heap.size + 1 + 1, 9, none⟩ = some (.int .i64 ((r.p : Int))) := gb_cell t0 9
  obtain ⟨y0, y1, y2, y3, y4, y5, y6, y7, y8, y9⟩ := has10 (gb_cell t1)
  have f1 := gb_free t0 1
  have f2 := gb_free t0 2
  have g0 := gb_free t1 0
  have g1 := gb_free t1 1
  have g2 := gb_free t1 2
  have g3 := gb_free t1 3
  have g4 := gb_free t1 4
  have g5 := gb_free t1 5
  have g6 := gb_free t1 6
  have g7 := gb_free t1 7
  have g8 := gb_free t1 8
  have g9 := gb_free t1 9
  have s1 := gb_lt t0
  have s2 := gb_lt t1
  clear t0 t1 hb1 hB
  go_wp2_with fail
  refine bodyPost_ret (v := .agg #[.bool false, .int .u32 ((mkP r.t).addr : Int), .int .i64 (mkP r.t).bits, .int .u8 ((r.w : Int) % 16), .int .u8 (0), .bool (decide (r.d % 4 = 3)), .int .u8 ((r.d : Int) / 16), .int .u8 ((r.m : Int) / 16), .int .i64 ((r.m : Int) % 4), .int .i64 ((r.p : Int))]) (by simp [results, Tryd.results27, go_sem, *]) rfl ⟨by rw [HR.out], ?_⟩
  repeat (first | refine Below.setCell ?_ (by simp <;> omega) _ | refine Below.alloc ?_ (by simp <;> omega) _)
  exact B.out
set_option maxRecDepth 100000 in
set_option maxHeartbeats 1000000 in
theorem rule_0011 (r : Rul) (hr : r.Ok) (w : World) (cW : ¬ 100 < r.w) (cO : ¬ 60 < r.o) (cP : r.p < 200) (cA : r.t % 3 = 0) : Calls Tryd.prog 27 #[.agg #[.int .u8 r.t, .int .u8 r.w, .int .u8 r.o, .int .u8 r.d, .int .u8 r.m, .int .u8 r.p]] w fun e w' => e = .returned (clv (ruleCl r)) ∧ Below w.heap.size w w' := by
  have h1 := hr.t
  have h2 := hr.w
  have h3 := hr.o
  have h4 := hr.d
  have h5 := hr.m
  have h6 := hr.p
  have hu : IntKind.u8.signed = false := rfl
  have HR : Hid (clv (ruleCl r) = .agg #[.bool true, .int .u32 0, .int .i64 0, .int .u8 ((r.w : Int) % 16), .int .u8 ((r.o : Int) % 16), .bool (decide (r.d % 4 = 3)), .int .u8 ((r.d : Int) / 16), .int .u8 ((r.m : Int) / 16), .int .i64 ((r.m : Int) % 4), .int .i64 (0)]) := Lib.hid (by simp [clv, ruleCl, cW, cO, cP, cA, noPfx])
  have k1 : decide (100 < (r.w : Int)) = false := by simp; omega
  have k2 : decide (60 < (r.o : Int)) = false := by simp; omega
  have k3 : decide ((r.p : Int) < 200) = true := by simp; omega
  have k4 : ((r.t : Int) % 3 == 0) = true := by simp; omega
  have k5 : ((r.d : Int) % 4 == 3) = decide (r.d % 4 = 3) := eqk3 r.d
  clear cW cO cP cA
  go_enter Tryd.func27, Tryd.ntmps27
  go_wp2_with fail
  refine bodyPost_ret (v := .agg #[.bool true, .int .u32 0, .int .i64 0, .int .u8 ((r.w : Int) % 16), .int .u8 ((r.o : Int) % 16), .bool (decide (r.d % 4 = 3)), .int .u8 ((r.d : Int) / 16), .int .u8 ((r.m : Int) / 16), .int .i64 ((r.m : Int) % 4), .int .i64 (0)]) (by simp [results, Tryd.results27, go_sem, *]) rfl ⟨by rw [HR.out], ?_⟩
  repeat (first | refine Below.setCell ?_ (by simp <;> omega) _ | refine Below.alloc ?_ (by simp <;> omega) _)
  exact Below.refl _ _
set_option maxRecDepth 100000 in
set_option maxHeartbeats 1000000 in
theorem rule_0010 (r : Rul) (hr : r.Ok) (w : World) (cW : ¬ 100 < r.w) (cO : ¬ 60 < r.o) (cP : r.p < 200) (cA : ¬ r.t % 3 = 0) : Calls Tryd.prog 27 #[.agg #[.int .u8 r.t, .int .u8 r.w, .int .u8 r.o, .int .u8 r.d, .int .u8 r.m, .int .u8 r.p]] w fun e w' => e = .returned (clv (ruleCl r)) ∧ Below w.heap.size w w' := by
  have h1 := hr.t
  have h2 := hr.w
  have h3 := hr.o
  have h4 := hr.d
  have h5 := hr.m
  have h6 := hr.p
  have hu : IntKind.u8.signed = false := rfl
  have HR : Hid (clv (ruleCl r) = .agg #[.bool false, .int .u32 ((mkP r.t).addr : Int), .int .i64 (mkP r.t).bits, .int .u8 ((r.w : Int) % 16), .int .u8 ((r.o : Int) % 16), .bool (decide (r.d % 4 = 3)), .int .u8 ((r.d : Int) / 16), .int .u8 ((r.m : Int) / 16), .int .i64 ((r.m : Int) % 4), .int .i64 (0)]) := Lib.hid (by simp [clv, ruleCl, cW, cO, cP, cA])
  have k1 : decide (100 < (r.w : Int)) = false := by simp; omega
  have k2 : decide (60 < (r.o : Int)) = false := by simp; omega
  have k3 : decide ((r.p : Int) < 200) = true := by simp; omega
  have k4 : ((r.t : Int) % 3 == 0) = false := by simp; omega
  have k5 : ((r.d : Int) % 4 == 3) = decide (r.d % 4 = 3) := eqk3 r.d
  clear cW cO cP cA
  go_enter Tryd.func27, Tryd.ntmps27
  go_wp2_with fail
  refine (make_any r.t h1 _).mono ?_
  rintro e w1 ⟨rfl, hb1⟩
  unfold pfxv
  have t0 := gb_blk hb1 (gb_new _ _) (by simp)
  have t1 := gb_blk hb1 (gb_old _ _ (gb_new _ _)) (by simp)
  have hB := gb_trans (gb_alloc (gb_alloc (gb_alloc (Below.refl w.heap.size w) _) _) _) hb1
  simp only [World.size_alloc] at t0 t1
  have B := Lib.hid hB
  have x0 : w1.cell? ⟨w.heap.size + 1 + 1, 0, none⟩ = some (.bool false) := gb_cell t0 0
  have x1 : w1.cell? ⟨w.heap.size + 1 + 1, 1, none⟩ = some (.int .u32 0) := gb_cell t0 1
  have x2 : w1.cell? ⟨w.heap.size + 1 + 1, 2, none⟩ = some (.int .i64 0) := gb_cell t0 2
  have x3 : w1.cell? ⟨w.heap.size + 1 + 1, 3, none⟩ = some (.int .u8 ((r.w : Int) % 16)) := gb_cell t0 3
  have x4 : w1.cell? ⟨w.heap.size + 1 + 1, 4, none⟩ = some (.int .u8 ((r.o : Int) % 16)) := gb_cell t0 4
  have x5 : w1.cell? ⟨w.heap.size + 1 + 1, 5, none⟩ = some (.bool (decide (r.d % 4 = 3))) := gb_cell t0 5
  have x6 : w1.cell? ⟨w.heap.size + 1 + 1, 6, none⟩ = some (.int .u8 ((r.d : Int) / 16)) := gb_cell t0 6
  have x7 : w1.cell? ⟨w.heap.size + 1 + 1, 7, none⟩ = some (.int .u8 ((r.m : Int) / 16)) := gb_cell t0 7
  have x8 : w1.cell? ⟨w.heap.size + 1 + 1, 8, none⟩ = some (.int .i64 ((r.m : Int) % 4)) := gb_cell t0 8
  have x9 : w1.cell? ⟨w.heap.size + 1 + 1, 9, none⟩ = some (.int .i64 (0)) := gb_cell t0 9
  obtain ⟨y0, y1, y2, y3, y4, y5, y6, y7, y8, y9⟩ := has10 (gb_cell t1)
  have f1 := gb_free t0 1
  have f2 := gb_free t0 2
  have g0 := gb_free t1 0
  have g1 := gb_free t1 1
  have g2 := gb_free t1 2
  have g3 := gb_free t1 3
  have g4 := gb_free t1 4
  have g5 := gb_free t1 5
  have g6 := gb_free t1 6
  have g7 := gb_free t1 7
  have g8 := gb_free t1 8
  have g9 := gb_free t1 9
  have s1 := gb_lt t0
  have s2 := gb_lt t1
  clear t0 t1 hb1 hB
  go_wp2_with fail
  refine bodyPost_ret (v := .agg #[.bool false, .int .u32 ((mkP r.t).addr : Int), .int .i64 (mkP r.t).bits, .int .u8 ((r.w : Int) % 16), .int .u8 ((r.o : Int) % 16), .bool (decide (r.d % 4 = 3)), .int .u8 ((r.d : Int) / 16), .int .u8 ((r.m : Int) / 16), .int .i64 ((r.m : Int) % 4), .int .i64 (0)]) (by simp [results, Tryd.results27, go_sem, *]) rfl ⟨by rw [HR.out], ?_⟩
  repeat (first | refine Below.setCell ?_ (by simp <;> omega) _ | refine Below.alloc ?_ (by simp <;> omega) _)
  exact B.out
set_option maxRecDepth 100000 in
set_option maxHeartbeats 1000000 in
theorem rule_0001 (r : Rul) (hr : r.Ok) (w : World) (cW : ¬ 100 < r.w) (cO : ¬ 60 < r.o) (cP : ¬ r.p < 200) (cA : r.t % 3 = 0) : Calls Tryd.prog 27 #[.agg #[.int .u8 r.t, .int .u8 r.w, .int .u8 r.o, .int .u8 r.d, .int .u8 r.m, .int .u8 r.p]] w fun e w' => e = .returned (clv (ruleCl r)) ∧ Below w.heap.size w w' := by
  have h1 := hr.t
  have h2 := hr.w
  have h3 := hr.o
  have h4 := hr.d
  have h5 := hr.m
  have h6 := hr.p
  have hu : IntKind.u8.signed = false := rfl
  have HR : Hid (clv (ruleCl r) = .agg #[.bool true, .int .u32 0, .int .i64 0, .int .u8 ((r.w : Int) % 16), .int .u8 ((r.o : Int) % 16), .bool (decide (r.d % 4 = 3)), .int .u8 ((r.d : Int) / 16), .int .u8 ((r.m : Int) / 16), .int .i64 ((r.m : Int) % 4), .int .i64 ((r.p : Int))]) := Lib.hid (by simp [clv, ruleCl, cW, cO, cP, cA, noPfx])
  have k1 : decide (100 < (r.w : Int)) = false := by simp; omega
  have k2 : decide (60 < (r.o : Int)) = false := by simp; omega
  have k3 : decide ((r.p : Int) < 200) = false := by simp; omega
  have k4 : ((r.t : Int) % 3 == 0) = true := by simp; omega
  have k5 : ((r.d : Int) % 4 == 3) = decide (r.d % 4 = 3) := eqk3 r.d
  clear cW cO cP cA
  go_enter Tryd.func27, Tryd.ntmps27
  go_wp2_with fail
  refine bodyPost_ret (v := .agg #[.bool true, .int .u32 0, .int .i64 0, .int .u8 ((r.w : Int) % 16), .int .u8 ((r.o : Int) % 16), .bool (decide (r.d % 4 = 3)), .int .u8 ((r.d : Int) / 16), .int .u8 ((r.m : Int) / 16), .int .i64 ((r.m : Int) % 4), .int .i64 ((r.p : Int))]) (by simp [results, Tryd.results27, go_sem, *]) rfl ⟨by rw [HR.out], ?_⟩
  repeat (first | refine Below.setCell ?_ (by simp <;> omega) _ | refine Below.alloc ?_ (by simp <;> omega) _)
  exact Below.refl _ _
set_option maxRecDepth 100000 in
set_option maxHeartbeats 1000000 in
theorem rule_0000 (r : Rul) (hr : r.Ok) (w : World) (cW : ¬ 100 < r.w) (cO : ¬ 60 < r.o) (cP : ¬ r.p < 200) (cA : ¬ r.t % 3 = 0) : Calls Tryd.prog 27 #[.agg #[.int .u8 r.t, .int .u8 r.w, .int .u8 r.o, .int .u8 r.d, .int .u8 r.m, .int .u8 r.p]] w fun e w' => e = .returned (clv (ruleCl r)) ∧ Below w.heap.size w w' := by
  have h1 := hr.t
  have h2 := hr.w
  have h3 := hr.o
  have h4 := hr.d
  have h5 := hr.m
  have h6 := hr.p
  have hu : IntKind.u8.signed = false := rfl
  have HR : Hid (clv (ruleCl r) = .agg #[.bool false, .int .u32 ((mkP r.t).addr : Int), .int .i64 (mkP r.t).bits, .int .u8 ((r.w : Int) % 16), .int .u8 ((r.o : Int) % 16), .bool (decide (r.d % 4 = 3)), .int .u8 ((r.d : Int) / 16), .int .u8 ((r.m : Int) / 16), .int .i64 ((r.m : Int) % 4), .int .i64 ((r.p : Int))]) := Lib.hid (by simp [clv, ruleCl, cW, cO, cP, cA])
  have k1 : decide (100 < (r.w : Int)) = false := by simp; omega
  have k2 : decide (60 < (r.o : Int)) = false := by simp; omega
  have k3 : decide ((r.p : Int) < 200) = false := by simp; omega
  have k4 : ((r.t : Int) % 3 == 0) = false := by simp; omega
  have k5 : ((r.d : Int) % 4 == 3) = decide (r.d % 4 = 3) := eqk3 r.d
  clear cW cO cP cA
  go_enter Tryd.func27, Tryd.ntmps27
  go_wp2_with fail
  refine (make_any r.t h1 _).mono ?_
  rintro e w1 ⟨rfl, hb1⟩
  unfold pfxv
  have t0 := gb_blk hb1 (gb_new _ _) (by simp)
  have t1 := gb_blk hb1 (gb_old _ _ (gb_new _ _)) (by simp)
  have hB := gb_trans (gb_alloc (gb_alloc (gb_alloc (Below.refl w.heap.size w) _) _) _) hb1
  simp only [World.size_alloc] at t0 t1
  have B := Lib.hid hB
  have x0 : w1.cell? ⟨w.heap.size + 1 + 1, 0, none⟩ = some (.bool false) := gb_cell t0 0
  have x1 : w1.cell? ⟨w.heap.size + 1 + 1, 1, none⟩ = some (.int .u32 0) := gb_cell t0 1
  have x2 : w1.cell? ⟨w.heap.size + 1 + 1, 2, none⟩ = some (.int .i64 0) := gb_cell t0 2
  have x3 : w1.cell? ⟨w.heap.size + 1 + 1, 3, none⟩ = some (.int .u8 ((r.w : Int) % 16)) := gb_cell t0 3
  have x4 : w1.cell? ⟨w.heap.size + 1 + 1, 4, none⟩ = some (.int .u8 ((r.o : Int) % 16)) := gb_cell t0 4
  have x5 : w1.cell? ⟨w.heap.size + 1 + 1, 5, none⟩ = some (.bool (decide (r.d % 4 = 3))) := gb_cell t0 5
  have x6 : w1.cell? ⟨w.heap.size + 1 + 1, 6, none⟩ = some (.int .u8 ((r.d : Int) / 16)) := gb_cell t0 6
  have x7 : w1.cell? ⟨w.heap.size + 1 + 1, 7, none⟩ = some (.int .u8 ((r.m : Int) / 16)) := gb_cell t0 7
  have x8 : w1.cell? ⟨w.heap.size + 1 + 1, 8, none⟩ = some (.int .i64 ((r.m : Int) % 4)) := gb_cell t0 8
  have x9 : w1.cell? ⟨w.heap.size + 1 + 1, 9, none⟩ = some (.int .i64 ((r.p : Int))) := gb_cell t0 9
  obtain ⟨y0, y1, y2, y3, y4, y5, y6, y7, y8, y9⟩ := has10 (gb_cell t1)
  have f1 := gb_free t0 1
  have f2 := gb_free t0 2
  have g0 := gb_free t1 0
  have g1 := gb_free t1 1
  have g2 := gb_free t1 2
  have g3 := gb_free t1 3
  have g4 := gb_free t1 4
  have g5 := gb_free t1 5
  have g6 := gb_free t1 6
  have g7 := gb_free t1 7
  have g8 := gb_free t1 8
  have g9 := gb_free t1 9
  have s1 := gb_lt t0
  have s2 := gb_lt t1
  clear t0 t1 hb1 hB
  go_wp2_with fail
  refine bodyPost_ret (v := .agg #[.bool false, .int .u32 ((mkP r.t).addr : Int), .int .i64 (mkP r.t).bits, .int .u8 ((r.w : Int) % 16), .int .u8 ((r.o : Int) % 16), .bool (decide (r.d % 4 = 3)), .int .u8 ((r.d : Int) / 16), .int .u8 ((r.m : Int) / 16), .int .i64 ((r.m : Int) % 4), .int .i64 ((r.p : Int))]) (by simp [results, Tryd.results27, go_sem, *]) rfl ⟨by rw [HR.out], ?_⟩
  repeat (first | refine Below.setCell ?_ (by simp <;> omega) _ | refine Below.alloc ?_ (by simp <;> omega) _)
  exact B.out
theorem rule_any (r : Rul) (hr : r.Ok) (w : World) : Calls Tryd.prog 27 #[.agg #[.int .u8 r.t, .int .u8 r.w, .int .u8 r.o, .int .u8 r.d, .int .u8 r.m, .int .u8 r.p]] w fun e w' => e = .returned (clv (ruleCl r)) ∧ Below w.heap.size w w' := by
  by_cases cW : 100 < r.w <;> by_cases cO : 60 < r.o <;> by_cases cP : r.p < 200 <;> by_cases cA : r.t % 3 = 0
  · exact rule_1111 r hr w cW cO cP cA
  · exact rule_1110 r hr w cW cO cP cA
  · exact rule_1101 r hr w cW cO cP cA
  · exact rule_1100 r hr w cW cO cP cA
  · exact rule_1011 r hr w cW cO cP cA
  · exact rule_1010 r hr w cW cO cP cA
  · exact rule_1001 r hr w cW cO cP cA
  · exact rule_1000 r hr w cW cO cP cA
  · exact rule_0111 r hr w cW cO cP cA
  · exact rule_0110 r hr w cW cO cP cA
  · exact rule_0101 r hr w cW cO cP cA
  · exact rule_0100 r hr w cW cO cP cA
  · exact rule_0011 r hr w cW cO cP cA
  · exact rule_0010 r hr w cW cO cP cA
  · exact rule_0001 r hr w cW cO cP cA
  · exact rule_0000 r hr w cW cO cP cA
end Go.Proofs.YteciceelinbfoaaDoor
