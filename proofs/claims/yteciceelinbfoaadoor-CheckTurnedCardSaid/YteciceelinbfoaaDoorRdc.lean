import Derived.Test.YteciceelinbfoaaDoorRdk
import Derived.Test.YteciceelinbfoaaDoorCg0
import Derived.Test.YteciceelinbfoaaDoorShp0
set_option linter.unusedVariables false
namespace Go.Proofs.YteciceelinbfoaaDoor
open Go.RowKit Go.WideShapes Go.ChangeShapes Go.Deep Mq

theorem rd_str {P : Program} {t : TypeId} (ht : P.underlying t = some .string) : Rdr P t (fun b : ByteArray => [.string b]) (fun _ _ => True) := by
  intro H enc w base spare held n cs x h
  obtain ⟨b, hb, -⟩ := DataW.trod_string ht h
  exact ⟨b, hb, trivial⟩
set_option maxRecDepth 100000 in
theorem rd_pfx : Rdr Tryd.prog 66 pfc (fun _ p => p.Ok) := by
  intro H enc w base spare held n cs x h
  obtain ⟨xs, m, -, -, hl, hxl, hf⟩ := DataW.trod_struct Tryd.underlying66 h
  have hl' : cs.length = 2 := hl.trans (by kernel_rfl)
  match cs, hl' with
  | [q0, q1], _ =>
    obtain ⟨y0, g0⟩ := rd_at hxl hf (i := 0) rfl (k := 1) (by kernel_rfl)
    obtain ⟨v0, e0, w0⟩ := rd_u32 Tryd.underlying64 (cs := [q0]) g0
    obtain ⟨y1, g1⟩ := rd_at hxl hf (i := 1) rfl (k := 1) (by kernel_rfl)
    obtain ⟨v1, e1, w1⟩ := rd_i64 Tryd.underlying3 (cs := [q1]) g1
    simp only [pfc, slv, List.cons.injEq, and_true] at e0 e1
    subst e0
    subst e1
    exact ⟨⟨v0, v1⟩, rfl, ⟨w0, w1⟩⟩
theorem rd_pfxs : Rdr Tryd.prog 44 (fun s : SlV Pfx => [slv s]) (SlOk pfc 2 fun _ p => p.Ok) := rd_slice Tryd.underlying44 (by kernel_rfl) (by omega) rd_pfx
set_option maxRecDepth 100000 in
theorem rd_link : Rdr Tryd.prog 50 lkc (fun _ _ => True) := by
  intro H enc w base spare held n cs x h
  obtain ⟨xs, m, -, -, hl, hxl, hf⟩ := DataW.trod_struct Tryd.underlying50 h
  have hl' : cs.length = 5 := hl.trans (by kernel_rfl)
  match cs, hl' with
  | [q0, q1, q2, q3, q4], _ =>
    obtain ⟨y0, g0⟩ := rd_at hxl hf (i := 0) rfl (k := 1) (by kernel_rfl)
    obtain ⟨v0, e0, w0⟩ := rd_str Tryd.underlying9 (cs := [q0]) g0
    obtain ⟨y1, g1⟩ := rd_at hxl hf (i := 1) rfl (k := 1) (by kernel_rfl)
    obtain ⟨v1, e1, w1⟩ := rd_i64 Tryd.underlying3 (cs := [q1]) g1
    obtain ⟨y2, g2⟩ := rd_at hxl hf (i := 2) rfl (k := 1) (by kernel_rfl)
    obtain ⟨v2, e2, w2⟩ := rd_str Tryd.underlying9 (cs := [q2]) g2
    obtain ⟨y3, g3⟩ := rd_at hxl hf (i := 3) rfl (k := 1) (by kernel_rfl)
    obtain ⟨v3, e3, w3⟩ := rd_str Tryd.underlying9 (cs := [q3]) g3
    obtain ⟨y4, g4⟩ := rd_at hxl hf (i := 4) rfl (k := 1) (by kernel_rfl)
    obtain ⟨v4, e4, w4⟩ := rd_i64 Tryd.underlying3 (cs := [q4]) g4
    simp only [pfc, slv, List.cons.injEq, and_true] at e0 e1 e2 e3 e4
    subst e0
    subst e1
    subst e2
    subst e3
    subst e4
    exact ⟨⟨v0, v1, v2, v3, v4⟩, rfl, trivial⟩
theorem rd_links : Rdr Tryd.prog 45 (fun s : SlV LkV => [slv s]) (SlOk lkc 5 fun _ _ => True) := rd_slice Tryd.underlying45 (by kernel_rfl) (by omega) rd_link
set_option maxRecDepth 100000 in
theorem rd_stat : Rdr Tryd.prog 70 stc (fun _ _ => True) := by
  intro H enc w base spare held n cs x h
  obtain ⟨xs, m, -, -, hl, hxl, hf⟩ := DataW.trod_struct Tryd.underlying70 h
  have hl' : cs.length = 4 := hl.trans (by kernel_rfl)
  match cs, hl' with
  | [q0, q1, q2, q3], _ =>
    obtain ⟨y0, g0⟩ := rd_at hxl hf (i := 0) rfl (k := 2) (by kernel_rfl)
    obtain ⟨v0, e0, w0⟩ := rd_pfx (cs := [q0, q1]) g0
    obtain ⟨y1, g1⟩ := rd_at hxl hf (i := 1) rfl (k := 1) (by kernel_rfl)
    obtain ⟨v1, e1, w1⟩ := rd_str Tryd.underlying9 (cs := [q2]) g1
    obtain ⟨y2, g2⟩ := rd_at hxl hf (i := 2) rfl (k := 1) (by kernel_rfl)
    obtain ⟨v2, e2, w2⟩ := rd_i64 Tryd.underlying3 (cs := [q3]) g2
    simp only [pfc, slv, List.cons.injEq, and_true] at e0 e1 e2
    obtain ⟨rfl, rfl⟩ := e0
    subst e1
    subst e2
    exact ⟨⟨v0, v1, v2⟩, rfl, trivial⟩
theorem rd_stats : Rdr Tryd.prog 46 (fun s : SlV StV => [slv s]) (SlOk stc 4 fun _ _ => True) := rd_slice Tryd.underlying46 (by kernel_rfl) (by omega) rd_stat
set_option maxRecDepth 100000 in
theorem rd_rt : Rdr Tryd.prog 48 rtc RtOk := by
  intro H enc w base spare held n cs x h
  obtain ⟨xs, m, -, -, hl, hxl, hf⟩ := DataW.trod_struct Tryd.underlying48 h
  have hl' : cs.length = 5 := hl.trans (by kernel_rfl)
  match cs, hl' with
  | [q0, q1, q2, q3, q4], _ =>
    obtain ⟨y0, g0⟩ := rd_at hxl hf (i := 0) rfl (k := 1) (by kernel_rfl)
    obtain ⟨v0, e0, w0⟩ := rd_str Tryd.underlying9 (cs := [q0]) g0
    obtain ⟨y1, g1⟩ := rd_at hxl hf (i := 1) rfl (k := 1) (by kernel_rfl)
    obtain ⟨v1, e1, w1⟩ := rd_pfxs (cs := [q1]) g1
    obtain ⟨y2, g2⟩ := rd_at hxl hf (i := 2) rfl (k := 1) (by kernel_rfl)
    obtain ⟨v2, e2, w2⟩ := rd_links (cs := [q2]) g2
    obtain ⟨y3, g3⟩ := rd_at hxl hf (i := 3) rfl (k := 1) (by kernel_rfl)
    obtain ⟨v3, e3, w3⟩ := rd_stats (cs := [q3]) g3
    obtain ⟨y4, g4⟩ := rd_at hxl hf (i := 4) rfl (k := 1) (by kernel_rfl)
    obtain ⟨v4, e4, w4⟩ := rd_i64 Tryd.underlying3 (cs := [q4]) g4
    simp only [pfc, slv, List.cons.injEq, and_true] at e0 e1 e2 e3 e4
    subst e0
    subst e1
    subst e2
    subst e3
    subst e4
    exact ⟨⟨v0, v1, v2, v3, v4⟩, rfl, ⟨slok_weak w1 fun _ _ => trivial, w2, w3⟩⟩
theorem rd_rts : Rdr Tryd.prog 31 (fun s : SlV RtV => [slv s]) (SlOk rtc 5 RtOk) := rd_slice Tryd.underlying31 (by kernel_rfl) (by omega) rd_rt
set_option maxRecDepth 100000 in
theorem rd_clause : Rdr Tryd.prog 88 clc (fun _ c => c.Ok) := by
  intro H enc w base spare held n cs x h
  obtain ⟨xs, m, -, -, hl, hxl, hf⟩ := DataW.trod_struct Tryd.underlying88 h
  have hl' : cs.length = 10 := hl.trans (by kernel_rfl)
  match cs, hl' with
  | [q0, q1, q2, q3, q4, q5, q6, q7, q8, q9], _ =>
    obtain ⟨y0, g0⟩ := rd_at hxl hf (i := 0) rfl (k := 1) (by kernel_rfl)
    obtain ⟨v0, e0, w0⟩ := rd_bool Tryd.underlying4 (cs := [q0]) g0
    obtain ⟨y1, g1⟩ := rd_at hxl hf (i := 1) rfl (k := 2) (by kernel_rfl)
    obtain ⟨v1, e1, w1⟩ := rd_pfx (cs := [q1, q2]) g1
    obtain ⟨y2, g2⟩ := rd_at hxl hf (i := 2) rfl (k := 1) (by kernel_rfl)
    obtain ⟨v2, e2, w2⟩ := rd_u8 Tryd.underlying5 (cs := [q3]) g2
    obtain ⟨y3, g3⟩ := rd_at hxl hf (i := 3) rfl (k := 1) (by kernel_rfl)
    obtain ⟨v3, e3, w3⟩ := rd_u8 Tryd.underlying5 (cs := [q4]) g3
    obtain ⟨y4, g4⟩ := rd_at hxl hf (i := 4) rfl (k := 1) (by kernel_rfl)
    obtain ⟨v4, e4, w4⟩ := rd_bool Tryd.underlying4 (cs := [q5]) g4
    obtain ⟨y5, g5⟩ := rd_at hxl hf (i := 5) rfl (k := 1) (by kernel_rfl)
    obtain ⟨v5, e5, w5⟩ := rd_u8 Tryd.underlying5 (cs := [q6]) g5
    obtain ⟨y6, g6⟩ := rd_at hxl hf (i := 6) rfl (k := 1) (by kernel_rfl)
    obtain ⟨v6, e6, w6⟩ := rd_u8 Tryd.underlying5 (cs := [q7]) g6
    obtain ⟨y7, g7⟩ := rd_at hxl hf (i := 7) rfl (k := 1) (by kernel_rfl)
    obtain ⟨v7, e7, w7⟩ := rd_i64 Tryd.underlying3 (cs := [q8]) g7
    obtain ⟨y8, g8⟩ := rd_at hxl hf (i := 8) rfl (k := 1) (by kernel_rfl)
    obtain ⟨v8, e8, w8⟩ := rd_i64 Tryd.underlying3 (cs := [q9]) g8
    simp only [pfc, slv, List.cons.injEq, and_true] at e0 e1 e2 e3 e4 e5 e6 e7 e8
    subst e0
    obtain ⟨rfl, rfl⟩ := e1
    subst e2
    subst e3
    subst e4
    subst e5
    subst e6
    subst e7
    subst e8
    exact ⟨⟨v0, v1, v2, v3, v4, v5, v6, v7, v8⟩, rfl, ⟨w1, w2, w3, w5, w6, w7, w8⟩⟩
theorem rd_clauses : Rdr Tryd.prog 55 (fun s : SlV Cl => [slv s]) (SlOk clc 10 fun _ c => c.Ok) := rd_slice Tryd.underlying55 (by kernel_rfl) (by omega) rd_clause
set_option maxRecDepth 100000 in
theorem rd_map : Rdr Tryd.prog 57 mpc (fun _ _ => True) := by
  intro H enc w base spare held n cs x h
  obtain ⟨xs, m, -, -, hl, hxl, hf⟩ := DataW.trod_struct Tryd.underlying57 h
  have hl' : cs.length = 3 := hl.trans (by kernel_rfl)
  match cs, hl' with
  | [q0, q1, q2], _ =>
    obtain ⟨y0, g0⟩ := rd_at hxl hf (i := 0) rfl (k := 1) (by kernel_rfl)
    obtain ⟨v0, e0, w0⟩ := rd_str Tryd.underlying9 (cs := [q0]) g0
    obtain ⟨y1, g1⟩ := rd_at hxl hf (i := 1) rfl (k := 1) (by kernel_rfl)
    obtain ⟨v1, e1, w1⟩ := rd_clauses (cs := [q1]) g1
    obtain ⟨y2, g2⟩ := rd_at hxl hf (i := 2) rfl (k := 1) (by kernel_rfl)
    obtain ⟨v2, e2, w2⟩ := rd_i64 Tryd.underlying3 (cs := [q2]) g2
    simp only [pfc, slv, List.cons.injEq, and_true] at e0 e1 e2
    subst e0
    subst e1
    subst e2
    exact ⟨⟨v0, (v1.A, v1.l.length, v1.cap), v2⟩, rfl, trivial⟩
theorem rd_maps : Rdr Tryd.prog 30 (fun s : SlV MpV => [slv s]) (SlOk mpc 3 fun _ _ => True) := rd_slice Tryd.underlying30 (by kernel_rfl) (by omega) rd_map
def cfc (c : CfV) : List Value := [slv c.maps, slv c.rts]
set_option maxRecDepth 100000 in
theorem rd_cfg : Rdr Tryd.prog 33 cfc CfOk := by
  intro H enc w base spare held n cs x h
  obtain ⟨xs, m, -, -, hl, hxl, hf⟩ := DataW.trod_struct Tryd.underlying33 h
  have hl' : cs.length = 2 := hl.trans (by kernel_rfl)
  match cs, hl' with
  | [q0, q1], _ =>
    obtain ⟨y0, g0⟩ := rd_at hxl hf (i := 0) rfl (k := 1) (by kernel_rfl)
    obtain ⟨v0, e0, w0⟩ := rd_maps (cs := [q0]) g0
    obtain ⟨y1, g1⟩ := rd_at hxl hf (i := 1) rfl (k := 1) (by kernel_rfl)
    obtain ⟨v1, e1, w1⟩ := rd_rts (cs := [q1]) g1
    simp only [pfc, slv, List.cons.injEq, and_true] at e0 e1
    subst e0
    subst e1
    exact ⟨⟨v0, v1⟩, rfl, ⟨w0, w1⟩⟩
theorem rd_u8s : Rdr Tryd.prog 22 (fun s : SlV Nat => [slv s]) (SlOk (fun b : Nat => [.int .u8 b]) 1 fun _ b => b < 256) := rd_slice Tryd.underlying22 (by kernel_rfl) (by omega) (rd_u8 Tryd.underlying5)
set_option maxRecDepth 100000 in
theorem rd_rule : Rdr Tryd.prog 86 rulc (fun _ r => r.Ok) := by
  intro H enc w base spare held n cs x h
  obtain ⟨xs, m, -, -, hl, hxl, hf⟩ := DataW.trod_struct Tryd.underlying86 h
  have hl' : cs.length = 6 := hl.trans (by kernel_rfl)
  match cs, hl' with
  | [q0, q1, q2, q3, q4, q5], _ =>
    obtain ⟨y0, g0⟩ := rd_at hxl hf (i := 0) rfl (k := 1) (by kernel_rfl)
    obtain ⟨v0, e0, w0⟩ := rd_u8 Tryd.underlying5 (cs := [q0]) g0
    obtain ⟨y1, g1⟩ := rd_at hxl hf (i := 1) rfl (k := 1) (by kernel_rfl)
    obtain ⟨v1, e1, w1⟩ := rd_u8 Tryd.underlying5 (cs := [q1]) g1
    obtain ⟨y2, g2⟩ := rd_at hxl hf (i := 2) rfl (k := 1) (by kernel_rfl)
    obtain ⟨v2, e2, w2⟩ := rd_u8 Tryd.underlying5 (cs := [q2]) g2
    obtain ⟨y3, g3⟩ := rd_at hxl hf (i := 3) rfl (k := 1) (by kernel_rfl)
    obtain ⟨v3, e3, w3⟩ := rd_u8 Tryd.underlying5 (cs := [q3]) g3
    obtain ⟨y4, g4⟩ := rd_at hxl hf (i := 4) rfl (k := 1) (by kernel_rfl)
    obtain ⟨v4, e4, w4⟩ := rd_u8 Tryd.underlying5 (cs := [q4]) g4
    obtain ⟨y5, g5⟩ := rd_at hxl hf (i := 5) rfl (k := 1) (by kernel_rfl)
    obtain ⟨v5, e5, w5⟩ := rd_u8 Tryd.underlying5 (cs := [q5]) g5
    simp only [pfc, slv, List.cons.injEq, and_true] at e0 e1 e2 e3 e4 e5
    subst e0
    subst e1
    subst e2
    subst e3
    subst e4
    subst e5
    exact ⟨⟨v0, v1, v2, v3, v4, v5⟩, rfl, ⟨w0, w1, w2, w3, w4, w5⟩⟩
theorem rd_rules : Rdr Tryd.prog 71 (fun s : SlV Rul => [slv s]) (SlOk rulc 6 fun _ r => r.Ok) := rd_slice Tryd.underlying71 (by kernel_rfl) (by omega) rd_rule
theorem rd_ruless : Rdr Tryd.prog 23 (fun s : SlV (SlV Rul) => [slv s]) (SlOk rssc 1 RssOk) := rd_slice Tryd.underlying23 (by kernel_rfl) (by omega) rd_rules
set_option maxRecDepth 100000 in
theorem rd_shape : Rdr Tryd.prog 25 shc ShOk := by
  intro H enc w base spare held n cs x h
  obtain ⟨xs, m, -, -, hl, hxl, hf⟩ := DataW.trod_struct Tryd.underlying25 h
  have hl' : cs.length = 6 := hl.trans (by kernel_rfl)
  match cs, hl' with
  | [q0, q1, q2, q3, q4, q5], _ =>
    obtain ⟨y0, g0⟩ := rd_at hxl hf (i := 0) rfl (k := 1) (by kernel_rfl)
    obtain ⟨v0, e0, w0⟩ := rd_u8 Tryd.underlying5 (cs := [q0]) g0
    obtain ⟨y1, g1⟩ := rd_at hxl hf (i := 1) rfl (k := 1) (by kernel_rfl)
    obtain ⟨v1, e1, w1⟩ := rd_u8s (cs := [q1]) g1
    obtain ⟨y2, g2⟩ := rd_at hxl hf (i := 2) rfl (k := 1) (by kernel_rfl)
    obtain ⟨v2, e2, w2⟩ := rd_ruless (cs := [q2]) g2
    obtain ⟨y3, g3⟩ := rd_at hxl hf (i := 3) rfl (k := 1) (by kernel_rfl)
    obtain ⟨v3, e3, w3⟩ := rd_u8s (cs := [q3]) g3
    obtain ⟨y4, g4⟩ := rd_at hxl hf (i := 4) rfl (k := 1) (by kernel_rfl)
    obtain ⟨v4, e4, w4⟩ := rd_u8s (cs := [q4]) g4
    obtain ⟨y5, g5⟩ := rd_at hxl hf (i := 5) rfl (k := 1) (by kernel_rfl)
    obtain ⟨v5, e5, w5⟩ := rd_u8s (cs := [q5]) g5
    simp only [pfc, slv, List.cons.injEq, and_true] at e0 e1 e2 e3 e4 e5
    subst e0
    subst e1
    subst e2
    subst e3
    subst e4
    subst e5
    exact ⟨⟨v0, v1, v2, v3, v4, v5⟩, rfl, ⟨w0, w1, w2, w3, w4, w5⟩⟩
end Go.Proofs.YteciceelinbfoaaDoor
