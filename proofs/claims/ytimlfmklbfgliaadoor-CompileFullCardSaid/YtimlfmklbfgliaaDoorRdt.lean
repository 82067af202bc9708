import Derived.Test.YtimlfmklbfgliaaDoorRdk
import Derived.Test.YtimlfmklbfgliaaDoorRc
set_option linter.unusedVariables false
set_option maxRecDepth 100000
namespace Go.Proofs.YtimlfmklbfgliaaDoor
open Go.RowKit Go.WideShapes Go.ChangeShapes Go.Deep Mq

def pfxc (p : Pfx) : List Value := [.int .u32 p.addr, .int .i64 p.bits]
def attc (a : Att) : List Value := [.bool a.ok, .int .i64 a.pref, .int .i64 a.cost, .int .u8 a.tags]
theorem rd_pfx : Rdr Tryd.prog 64 pfxc (fun _ p => p.Ok) := by
  intro H enc w base spare held n cs x h
  obtain ⟨xs, m, -, -, hl, hxl, hf⟩ := DataW.trod_struct Tryd.underlying64 h
  have hl' : cs.length = 2 := hl.trans (by kernel_rfl)
  match cs, hl' with
  | [q0, q1], _ =>
    obtain ⟨y0, g0⟩ := rd_at hxl hf (i := 0) rfl (k := 1) (by kernel_rfl)
    obtain ⟨v0, e0, w0⟩ := rd_u32 Tryd.underlying62 (cs := [q0]) g0
    obtain ⟨y1, g1⟩ := rd_at hxl hf (i := 1) rfl (k := 1) (by kernel_rfl)
    obtain ⟨v1, e1, w1⟩ := rd_i64 Tryd.underlying3 (cs := [q1]) g1
    simp only [pfxc, slv, List.cons.injEq, and_true] at e0 e1
    subst e0
    subst e1
    exact ⟨⟨v0, v1⟩, rfl, ⟨w0, w1⟩⟩
theorem rd_att : Rdr Tryd.prog 49 attc (fun _ a => a.Ok) := by
  intro H enc w base spare held n cs x h
  obtain ⟨xs, m, -, -, hl, hxl, hf⟩ := DataW.trod_struct Tryd.underlying49 h
  have hl' : cs.length = 4 := hl.trans (by kernel_rfl)
  match cs, hl' with
  | [q0, q1, q2, q3], _ =>
    obtain ⟨y0, g0⟩ := rd_at hxl hf (i := 0) rfl (k := 1) (by kernel_rfl)
    obtain ⟨v0, e0, w0⟩ := rd_bool Tryd.underlying4 (cs := [q0]) g0
    obtain ⟨y1, g1⟩ := rd_at hxl hf (i := 1) rfl (k := 1) (by kernel_rfl)
    obtain ⟨v1, e1, w1⟩ := rd_i64 Tryd.underlying3 (cs := [q1]) g1
    obtain ⟨y2, g2⟩ := rd_at hxl hf (i := 2) rfl (k := 1) (by kernel_rfl)
    obtain ⟨v2, e2, w2⟩ := rd_i64 Tryd.underlying3 (cs := [q2]) g2
    obtain ⟨y3, g3⟩ := rd_at hxl hf (i := 3) rfl (k := 1) (by kernel_rfl)
    obtain ⟨v3, e3, w3⟩ := rd_u8 Tryd.underlying5 (cs := [q3]) g3
    simp only [pfxc, slv, List.cons.injEq, and_true] at e0 e1 e2 e3
    subst e0
    subst e1
    subst e2
    subst e3
    exact ⟨⟨v0, v1, v2, v3⟩, rfl, ⟨w1, w2, w3⟩⟩
theorem rd_rule : Rdr Tryd.prog 83 rulc (fun _ r => r.Ok) := by
  intro H enc w base spare held n cs x h
  obtain ⟨xs, m, -, -, hl, hxl, hf⟩ := DataW.trod_struct Tryd.underlying83 h
  have hl' : cs.length = 6 := hl.trans (by kernel_rfl)
  match cs, hl' with
  | [q0, q1, q2, q3, q4, q5], _ =>
    obtain ⟨y0, g0⟩ := rd_at hxl hf (i := 0) rfl (k := 1) (by kernel_rfl)
    obtain ⟨v0, e0, w0⟩ := rd_u8 Tryd.underlying5 (cs := [q0]) g0
    obtain ⟨y1, g1⟩ := rd_at hxl hf (i := 1) rfl (k := 1) (by kernel_rfl)
    obtain ⟨v1, e1, w1⟩ := rd_u8 Tryd.underlying5 (cs := [q1]) g1
    obtain ⟨y2, g2⟩ := rd_at hxl hf (i := 2) rfl (k := 1) (by kernel_rfl)
    obtain ⟨v2, e2, w2⟩ := rd_u8 Tryd.underlying5 (cs := [q2]) g2
    obtain ⟨y3, g3⟩ := rd_at hxl hf (i := 3) rfl (k := 1) (by kernel_rfl)
    obtain ⟨v3, e3, w3⟩ := rd_u8 Tryd.underlying5 (cs := [q3]) g3
    obtain ⟨y4, g4⟩ := rd_at hxl hf (i := 4) rfl (k := 1) (by kernel_rfl)
    obtain ⟨v4, e4, w4⟩ := rd_u8 Tryd.underlying5 (cs := [q4]) g4
    obtain ⟨y5, g5⟩ := rd_at hxl hf (i := 5) rfl (k := 1) (by kernel_rfl)
    obtain ⟨v5, e5, w5⟩ := rd_u8 Tryd.underlying5 (cs := [q5]) g5
    simp only [pfxc, slv, List.cons.injEq, and_true] at e0 e1 e2 e3 e4 e5
    subst e0
    subst e1
    subst e2
    subst e3
    subst e4
    subst e5
    exact ⟨⟨v0, v1, v2, v3, v4, v5⟩, rfl, ⟨w0, w1, w2, w3, w4, w5⟩⟩
theorem rd_clause : Rdr Tryd.prog 80 clc (fun _ c => c.Ok) := by
  intro H enc w base spare held n cs x h
  obtain ⟨xs, m, -, -, hl, hxl, hf⟩ := DataW.trod_struct Tryd.underlying80 h
  have hl' : cs.length = 10 := hl.trans (by kernel_rfl)
  match cs, hl' with
  | [q0, q1, q2, q3, q4, q5, q6, q7, q8, q9], _ =>
    obtain ⟨y0, g0⟩ := rd_at hxl hf (i := 0) rfl (k := 1) (by kernel_rfl)
    obtain ⟨v0, e0, w0⟩ := rd_bool Tryd.underlying4 (cs := [q0]) g0
    obtain ⟨y1, g1⟩ := rd_at hxl hf (i := 1) rfl (k := 2) (by kernel_rfl)
    obtain ⟨v1, e1, w1⟩ := rd_pfx (cs := [q1, q2]) g1
    obtain ⟨y2, g2⟩ := rd_at hxl hf (i := 2) rfl (k := 1) (by kernel_rfl)
    obtain ⟨v2, e2, w2⟩ := rd_u8 Tryd.underlying5 (cs := [q3]) g2
    obtain ⟨y3, g3⟩ := rd_at hxl hf (i := 3) rfl (k := 1) (by kernel_rfl)
    obtain ⟨v3, e3, w3⟩ := rd_u8 Tryd.underlying5 (cs := [q4]) g3
    obtain ⟨y4, g4⟩ := rd_at hxl hf (i := 4) rfl (k := 1) (by kernel_rfl)
    obtain ⟨v4, e4, w4⟩ := rd_bool Tryd.underlying4 (cs := [q5]) g4
    obtain ⟨y5, g5⟩ := rd_at hxl hf (i := 5) rfl (k := 1) (by kernel_rfl)
    obtain ⟨v5, e5, w5⟩ := rd_u8 Tryd.underlying5 (cs := [q6]) g5
    obtain ⟨y6, g6⟩ := rd_at hxl hf (i := 6) rfl (k := 1) (by kernel_rfl)
    obtain ⟨v6, e6, w6⟩ := rd_u8 Tryd.underlying5 (cs := [q7]) g6
    obtain ⟨y7, g7⟩ := rd_at hxl hf (i := 7) rfl (k := 1) (by kernel_rfl)
    obtain ⟨v7, e7, w7⟩ := rd_i64 Tryd.underlying3 (cs := [q8]) g7
    obtain ⟨y8, g8⟩ := rd_at hxl hf (i := 8) rfl (k := 1) (by kernel_rfl)
    obtain ⟨v8, e8, w8⟩ := rd_i64 Tryd.underlying3 (cs := [q9]) g8
    simp only [pfxc, slv, List.cons.injEq, and_true] at e0 e1 e2 e3 e4 e5 e6 e7 e8
    subst e0
    obtain ⟨rfl, rfl⟩ := e1
    subst e2
    subst e3
    subst e4
    subst e5
    subst e6
    subst e7
    subst e8
    exact ⟨⟨v0, v1, v2, v3, v4, v5, v6, v7, v8⟩, rfl, ⟨w1, w2, w3, w5, w6, w7, w8⟩⟩
theorem rd_rules : Rdr Tryd.prog 22 (fun s : SlV Rul => [slv s]) (SlOk rulc 6 fun _ r => r.Ok) := rd_slice Tryd.underlying22 (by kernel_rfl) (by omega) rd_rule
theorem rd_clauses : Rdr Tryd.prog 34 (fun s : SlV Cl => [slv s]) (SlOk clc 10 fun _ c => c.Ok) := rd_slice Tryd.underlying34 (by kernel_rfl) (by omega) rd_clause
/-- An edge's value, and what it reads as. -/
structure EdV where
  from_ : Int
  cost : Int
  ex : SlV Cl
  im : SlV Cl
def edc (e : EdV) : List Value := [.int .i64 e.from_, .int .i64 e.cost, slv e.ex, slv e.im]
structure EdOk (w : World) (e : EdV) : Prop where
  from_ : is64 e.from_
  cost : is64 e.cost
  ex : SlOk clc 10 (fun _ c => c.Ok) w e.ex
  im : SlOk clc 10 (fun _ c => c.Ok) w e.im
/-- A wire's. -/
structure WiV where
  from_ : Nat
  cost : Nat
  ex : SlV Rul
  im : SlV Rul
def wic (e : WiV) : List Value := [.int .u8 e.from_, .int .u8 e.cost, slv e.ex, slv e.im]
structure WiOk (w : World) (e : WiV) : Prop where
  from_ : e.from_ < 256
  cost : e.cost < 256
  ex : SlOk rulc 6 (fun _ c => c.Ok) w e.ex
  im : SlOk rulc 6 (fun _ c => c.Ok) w e.im
theorem rd_edge : Rdr Tryd.prog 36 edc EdOk := by
  intro H enc w base spare held n cs x h
  obtain ⟨xs, m, -, -, hl, hxl, hf⟩ := DataW.trod_struct Tryd.underlying36 h
  have hl' : cs.length = 4 := hl.trans (by kernel_rfl)
  match cs, hl' with
  | [q0, q1, q2, q3], _ =>
    obtain ⟨y0, g0⟩ := rd_at hxl hf (i := 0) rfl (k := 1) (by kernel_rfl)
    obtain ⟨v0, e0, w0⟩ := rd_i64 Tryd.underlying3 (cs := [q0]) g0
    obtain ⟨y1, g1⟩ := rd_at hxl hf (i := 1) rfl (k := 1) (by kernel_rfl)
    obtain ⟨v1, e1, w1⟩ := rd_i64 Tryd.underlying3 (cs := [q1]) g1
    obtain ⟨y2, g2⟩ := rd_at hxl hf (i := 2) rfl (k := 1) (by kernel_rfl)
    obtain ⟨v2, e2, w2⟩ := rd_clauses (cs := [q2]) g2
    obtain ⟨y3, g3⟩ := rd_at hxl hf (i := 3) rfl (k := 1) (by kernel_rfl)
    obtain ⟨v3, e3, w3⟩ := rd_clauses (cs := [q3]) g3
    simp only [pfxc, slv, List.cons.injEq, and_true] at e0 e1 e2 e3
    subst e0
    subst e1
    subst e2
    subst e3
    exact ⟨⟨v0, v1, v2, v3⟩, rfl, ⟨w0, w1, w2, w3⟩⟩
theorem rd_wire : Rdr Tryd.prog 24 wic WiOk := by
  intro H enc w base spare held n cs x h
  obtain ⟨xs, m, -, -, hl, hxl, hf⟩ := DataW.trod_struct Tryd.underlying24 h
  have hl' : cs.length = 4 := hl.trans (by kernel_rfl)
  match cs, hl' with
  | [q0, q1, q2, q3], _ =>
    obtain ⟨y0, g0⟩ := rd_at hxl hf (i := 0) rfl (k := 1) (by kernel_rfl)
    obtain ⟨v0, e0, w0⟩ := rd_u8 Tryd.underlying5 (cs := [q0]) g0
    obtain ⟨y1, g1⟩ := rd_at hxl hf (i := 1) rfl (k := 1) (by kernel_rfl)
    obtain ⟨v1, e1, w1⟩ := rd_u8 Tryd.underlying5 (cs := [q1]) g1
    obtain ⟨y2, g2⟩ := rd_at hxl hf (i := 2) rfl (k := 1) (by kernel_rfl)
    obtain ⟨v2, e2, w2⟩ := rd_rules (cs := [q2]) g2
    obtain ⟨y3, g3⟩ := rd_at hxl hf (i := 3) rfl (k := 1) (by kernel_rfl)
    obtain ⟨v3, e3, w3⟩ := rd_rules (cs := [q3]) g3
    simp only [pfxc, slv, List.cons.injEq, and_true] at e0 e1 e2 e3
    subst e0
    subst e1
    subst e2
    subst e3
    exact ⟨⟨v0, v1, v2, v3⟩, rfl, ⟨w0, w1, w2, w3⟩⟩
end Go.Proofs.YtimlfmklbfgliaaDoor
