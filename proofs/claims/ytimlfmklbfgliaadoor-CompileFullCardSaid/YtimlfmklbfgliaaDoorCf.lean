import Derived.Test.YtimlfmklbfgliaaDoorCd
set_option linter.unusedVariables false
namespace Go.Proofs.YtimlfmklbfgliaaDoor
open Go.RowKit Mq

theorem clause_info : (Tryd.prog.info? 80).map (fun i => (i.zero, i.size, i.bytes)) = some (some (clv ⟨false, noPfx, 0, 0, false, 0, 0, 0, 0⟩), 10, 48) := by kernel_rfl
/-- What For leaves: its clauses, in a row of its own. -/
def OwnsCls (w : World) (base : Nat) (v : Value) (cs : List Cl) : Prop := w.ownsRow base 80 10 v cs.length (cs.flatMap clc)
def ForPost (w : World) (r : List Cl) (e : Ending) (w' : World) : Prop := ∃ A c, e = .returned (.slice A r.length c) ∧ OwnsCls w' w.heap.size (.slice A r.length c) r ∧ Below w.heap.size w w'
theorem OwnsCls.form {w : World} {base : Nat} {v : Value} {cs : List Cl} (h : OwnsCls w base v cs) : ∃ A c, v = .slice A cs.length c := by
  rcases h.2 with ⟨rfl, hn⟩ | ⟨g, cap, cur, rfl, -⟩
  · exact ⟨none, 0, by rw [hn]⟩
  · exact ⟨_, _, rfl⟩
theorem OwnsCls.at_ {w : World} {base : Nat} {A : Option Addr} {n c : Nat} {cs : List Cl} (h : OwnsCls w base (.slice A n c) cs) : ClsAt w w.heap.size A cs := by
  obtain ⟨A', c', e⟩ := h.form
  injection e with e1 e2 e3
  subst e2
  exact Sli.of_own (fun a => rfl) (by omega) h
def bareCells (c : Cl) : Array Value := #[.bool true, .int .u32 0, .int .i64 0, .int .u8 c.wi, .int .u8 c.out, .bool c.drop, .int .u8 c.set, .int .u8 c.clr, .int .i64 c.more, .int .i64 c.pref]
theorem clc_bare (c : Cl) : clc (bareCl c) = (bareCells c).toList := rfl
theorem forL_skip {cs : List Cl} {o : Pfx} {k : Nat} {c : Cl} (hk : cs[k]? = some c) (h : forB c o = false) {pre : List Cl} (e : forL cs o = pre ++ forL (cs.drop k) o) : forL cs o = pre ++ forL (cs.drop (k + 1)) o := by
  obtain ⟨hl, rfl⟩ := List.getElem?_eq_some_iff.1 hk
  rw [e, List.drop_eq_getElem_cons hl, forL, if_neg (by simp [h])]
theorem forL_take {cs : List Cl} {o : Pfx} {k : Nat} {c : Cl} (hk : cs[k]? = some c) (h : forB c o = true) (hz : ¬ (c.wi = 0 ∧ c.out = 0)) {pre : List Cl} (e : forL cs o = pre ++ forL (cs.drop k) o) : forL cs o = (pre ++ [bareCl c]) ++ forL (cs.drop (k + 1)) o := by
  obtain ⟨hl, rfl⟩ := List.getElem?_eq_some_iff.1 hk
  rw [e, List.drop_eq_getElem_cons hl, forL, if_pos h, if_neg hz, List.append_assoc]; rfl
theorem forL_stop {cs : List Cl} {o : Pfx} {k : Nat} {c : Cl} (hk : cs[k]? = some c) (h : forB c o = true) (hz : c.wi = 0 ∧ c.out = 0) {pre : List Cl} (e : forL cs o = pre ++ forL (cs.drop k) o) : forL cs o = pre ++ [bareCl c] := by
  obtain ⟨hl, rfl⟩ := List.getElem?_eq_some_iff.1 hk
  rw [e, List.drop_eq_getElem_cons hl, forL, if_pos h, if_pos hz]
theorem own_base {w : World} {b b' : Nat} {v : Value} {cs : List Cl} (h : OwnsCls w b v cs) (hb : b' ≤ b) : OwnsCls w b' v cs := by
  obtain ⟨h1, h2⟩ := h
  refine ⟨h1, ?_⟩
  rcases h2 with h2 | ⟨g, cap, cur, h2, h3, h4⟩
  · exact .inl h2
  · exact .inr ⟨g, cap, cur, h2, by omega, h4⟩
/-- The state of For's loop. -/
structure ForRel (cs : List Cl) (o : Pfx) (W wr : World) (v : Value) (k : Nat) (pre : List Cl) : Prop where
  done : forL cs o = pre ++ forL (cs.drop k) o
  few : pre.length ≤ k
  below : Below W.heap.size W wr
  owns : OwnsCls wr W.heap.size v pre

set_option maxRecDepth 100000 in
set_option maxHeartbeats 4000000 in
theorem for_any (A : Option Addr) (cap : Nat) (cs : List Cl) (hcs : ∀ c ∈ cs, c.Ok) (o : Pfx) (ho : o.Ok) (w : World) (hs : ClsAt w w.heap.size A cs) (hn : cs.length * 48 ≤ 140737488351232) :
    Calls Tryd.prog 17 #[.slice A cs.length cap, pfxv o] w (ForPost w (forL cs o)) := by
  unfold pfxv
  have hn' : cs.length ≤ 9223372036854775807 := by omega
  go_enter Tryd.func17, Tryd.ntmps17
  go_wp2_with fail
  have b0 := gb_new w (.cells #[.int .u32 o.addr, .int .i64 o.bits] 64)
  have hB := gb_alloc (Below.refl w.heap.size w) (.cells #[.int .u32 o.addr, .int .i64 o.bits] 64)
  have hsz : w.heap.size ≤ (w.alloc (.cells #[.int .u32 o.addr, .int .i64 o.bits] 64)).heap.size := by simp
  generalize w.alloc (.cells #[.int .u32 o.addr, .int .i64 o.bits] 64) = W at *
  have S := Lib.hid ((hs.below hB).more hB.size)
  have B0 := Lib.hid b0; have BB := Lib.hid hB
  clear b0 hB hs
  go_loopw [5, 10] (fun v i wr => ∃ k pre, i = .int .i64 (k : Nat) ∧ k ≤ cs.length ∧ ForRel cs o W wr v k pre) (fun _ i _ => cs.length - (intOf i).toNat)
  case atStart => exact ⟨0, [], rfl, by omega, ⟨rfl, by simp, Below.refl _ _, World.ownsRow_nil _ _ _ _⟩⟩
  case round =>
    obtain ⟨k, pre, rfl, hk, hrel⟩ := hrel
    obtain ⟨Av, cv, rfl⟩ := hrel.owns.form
    have R := Lib.hid hrel
    clear hrel
    by_cases hlt : k < cs.length
    · obtain ⟨c, hc⟩ : ∃ c, cs[k]? = some c := ⟨_, List.getElem?_eq_getElem hlt⟩
      obtain ⟨b, off, rfl, hbb, e0, e1, e2, e3, e4, e5, e6, e7, e8, e9⟩ := ClsAt.get (S.out.below R.out.below) hc
      have p0 := gb_blk R.out.below B0.out (gb_lt B0.out)
      obtain ⟨q0, q1⟩ := gb_cells2 p0
      have s0 := gb_lt p0
      have P0 := Lib.hid p0; have C := Lib.hid hc
      have hcok := hcs c (List.mem_of_getElem? hc)
      clear p0 hc
      go_upto_region 5 with fail
      have t0 := gb_new wr (.cells #[.bool c.any, .int .u32 c.px.addr, .int .i64 c.px.bits, .int .u8 c.wi, .int .u8 c.out, .bool c.drop, .int .u8 c.set, .int .u8 c.clr, .int .i64 c.more, .int .i64 c.pref] 80)
      have t3 := gb_old wr (.cells #[.bool c.any, .int .u32 c.px.addr, .int .i64 c.px.bits, .int .u8 c.wi, .int .u8 c.out, .bool c.drop, .int .u8 c.set, .int .u8 c.clr, .int .i64 c.more, .int .i64 c.pref] 80) P0.out
      have hbq := gb_trans R.out.below (gb_alloc (Below.refl wr.heap.size wr) (.cells #[.bool c.any, .int .u32 c.px.addr, .int .i64 c.px.bits, .int .u8 c.wi, .int .u8 c.out, .bool c.drop, .int .u8 c.set, .int .u8 c.clr, .int .i64 c.more, .int .i64 c.pref] 80))
      have hown := ow_alloc R.out.owns (.cells #[.bool c.any, .int .u32 c.px.addr, .int .i64 c.px.bits, .int .u8 c.wi, .int .u8 c.out, .bool c.drop, .int .u8 c.set, .int .u8 c.clr, .int .i64 c.more, .int .i64 c.pref] 80)
      clear e0 e1 e2 e3 e4 e5 e6 e7 e8 e9 q0 q1
      generalize wr.alloc (.cells #[.bool c.any, .int .u32 c.px.addr, .int .i64 c.px.bits, .int .u8 c.wi, .int .u8 c.out, .bool c.drop, .int .u8 c.set, .int .u8 c.clr, .int .i64 c.more, .int .i64 c.pref] 80) = w1 at *
      obtain ⟨q0, q1⟩ := gb_cells2 t3
      have x0 : w1.cell? ⟨wr.heap.size, 0, none⟩ = some (.bool c.any) := gb_cell t0 0
      have x1 : w1.cell? ⟨wr.heap.size, 1, none⟩ = some (.int .u32 c.px.addr) := gb_cell t0 1
      have x2 : w1.cell? ⟨wr.heap.size, 2, none⟩ = some (.int .i64 c.px.bits) := gb_cell t0 2
      have T0 := Lib.hid t0
      have HBQ := Lib.hid hbq
      have HO := Lib.hid hown
      have sW := R.out.below.size
      clear t0 t3 hbq hown
      cases hany : c.any with
      | true =>
        rw [hany] at x0
        have HV : Hid (forB c o = true) := Lib.hid (by simp [forB, hany])
        clear hany
        have t0 := T0.out
        have BQ := HBQ
        have OQ := HO
        clear T0 HBQ HO
        go_upto_region 6 with fail
        have y0 : w1.cell? ⟨wr.heap.size, 0, none⟩ = some (.bool c.any) := gb_cell t0 0
        have y1 : w1.cell? ⟨wr.heap.size, 1, none⟩ = some (.int .u32 c.px.addr) := gb_cell t0 1
        have y2 : w1.cell? ⟨wr.heap.size, 2, none⟩ = some (.int .i64 c.px.bits) := gb_cell t0 2
        have f0 := gb_free t0 0
        have f1 := gb_free t0 1
        have f2 := gb_free t0 2
        have z0 := gb_lt t0
        have u0 := gb_set (gb_set (gb_set t0 0 (.bool true)) 1 (.int .u32 0)) 2 (.int .i64 0)
        have U0 : Hid ((((w1.setCell ⟨wr.heap.size, 0, none⟩ (.bool true)).setCell ⟨wr.heap.size, 1, none⟩ (.int .u32 0)).setCell ⟨wr.heap.size, 2, none⟩ (.int .i64 0)).heap[wr.heap.size]? = some (.cells (bareCells c) 80 (0, 0))) := Lib.hid u0
        have BU := Lib.hid (((BQ.out.setCell (p := ⟨wr.heap.size, 0, none⟩) (by simp; omega) (.bool true)).setCell (p := ⟨wr.heap.size, 1, none⟩) (by simp; omega) (.int .u32 0)).setCell (p := ⟨wr.heap.size, 2, none⟩) (by simp; omega) (.int .i64 0))
        have OU : Hid (OwnsCls (((w1.setCell ⟨wr.heap.size, 0, none⟩ (.bool true)).setCell ⟨wr.heap.size, 1, none⟩ (.int .u32 0)).setCell ⟨wr.heap.size, 2, none⟩ (.int .i64 0)) W.heap.size (.slice Av pre.length cv) pre) := Lib.hid (ow_move OQ.out fun j h1 h2 h3 => by
          have hj := (R.out.owns.lt j h3).2
          rw [Below.heap_setCell _ _ _ _ (show j ≠ wr.heap.size by omega), Below.heap_setCell _ _ _ _ (show j ≠ wr.heap.size by omega), Below.heap_setCell _ _ _ _ (show j ≠ wr.heap.size by omega)])
        have sU : W.heap.size ≤ ((((w1.setCell ⟨wr.heap.size, 0, none⟩ (.bool true)).setCell ⟨wr.heap.size, 1, none⟩ (.int .u32 0)).setCell ⟨wr.heap.size, 2, none⟩ (.int .i64 0))).heap.size := BU.out.size
        clear u0 t0
        go_upto_region 7 with fail
        clear y0 y1 y2 f0 f1 f2 z0
        generalize (((w1.setCell ⟨wr.heap.size, 0, none⟩ (.bool true)).setCell ⟨wr.heap.size, 1, none⟩ (.int .u32 0)).setCell ⟨wr.heap.size, 2, none⟩ (.int .i64 0)) = wu at *
        have u0 := U0.out
        unfold bareCells at u0
        have v0 : wu.cell? ⟨wr.heap.size, 0, none⟩ = some (.bool true) := gb_cell u0 0
        have v1 : wu.cell? ⟨wr.heap.size, 1, none⟩ = some (.int .u32 0) := gb_cell u0 1
        have v2 : wu.cell? ⟨wr.heap.size, 2, none⟩ = some (.int .i64 0) := gb_cell u0 2
        have v3 : wu.cell? ⟨wr.heap.size, 3, none⟩ = some (.int .u8 c.wi) := gb_cell u0 3
        have v4 : wu.cell? ⟨wr.heap.size, 4, none⟩ = some (.int .u8 c.out) := gb_cell u0 4
        have v5 : wu.cell? ⟨wr.heap.size, 5, none⟩ = some (.bool c.drop) := gb_cell u0 5
        have v6 : wu.cell? ⟨wr.heap.size, 6, none⟩ = some (.int .u8 c.set) := gb_cell u0 6
        have v7 : wu.cell? ⟨wr.heap.size, 7, none⟩ = some (.int .u8 c.clr) := gb_cell u0 7
        have v8 : wu.cell? ⟨wr.heap.size, 8, none⟩ = some (.int .i64 c.more) := gb_cell u0 8
        have v9 : wu.cell? ⟨wr.heap.size, 9, none⟩ = some (.int .i64 c.pref) := gb_cell u0 9
        have su := gb_lt u0
        clear u0
        obtain ⟨i0, hi0, hz0, hz1, hz2⟩ := info_parts clause_info
        have hfew := R.out.few
        have hne : some wr.heap.size ≠ (Value.slice Av pre.length cv).ownBlock := fun e => by have := (R.out.owns.lt _ e.symm).2; omega
        have HNE := Lib.hid hne
        clear hne
        go_upto_region 8 with (at_builtin; refine wpList_append_lies _ rfl _ _ _ rfl W.heap.size 80 i0 _ 10 48 Tryd.underlying34 hi0 hz0 hz1 hz2 rfl (by omega) _ pre.length (pre.flatMap clc) rfl (ow_alloc OU.out _) ⟨wu.heap.size, 0, none⟩ 1 1 (clc (bareCl c)) rfl rfl (World.news_of_block (cs := bareCells c) (heap_alloc_new wu _)) (by intro u hu; simp [clc] at hu; rcases hu with rfl | rfl | rfl | rfl | rfl | rfl | rfl | rfl | rfl | rfl <;> rfl) (by omega) (by unfold maxLen; omega) (by omega) (by simp; omega) _ rfl ?_; intro g cap' w7 hown7 hgrow hat hlt7)
        have t3 : w7.cell? ⟨wr.heap.size, 3, none⟩ = some (.int .u8 c.wi) := hgrow.cell ((World.cell?_alloc_lt wu _ ⟨wr.heap.size, 3, none⟩ su).trans v3) HNE.out
        have t4 : w7.cell? ⟨wr.heap.size, 4, none⟩ = some (.int .u8 c.out) := hgrow.cell ((World.cell?_alloc_lt wu _ ⟨wr.heap.size, 4, none⟩ su).trans v4) HNE.out
        have B7 := Lib.hid (ow_grown (gb_alloc BU.out _) hgrow OU.out (by simp; omega))
        have O7 : Hid (OwnsCls w7 W.heap.size (.slice (some ⟨g, 0, none⟩) (pre.length + 1) cap') (pre ++ [bareCl c])) := Lib.hid (by have := hown7; unfold OwnsCls; rw [List.length_append, List.flatMap_append, List.length_singleton]; simpa using this)
        clear v0 v1 v2 v3 v4 v5 v6 v7 v8 v9 hgrow hat hown7 hi0 hz0 hz1 hz2
        by_cases hw0 : c.wi = 0
        · have k1 : ((c.wi : Int) == 0) = true := by rw [eq0_dec]; exact decide_eq_true hw0
          by_cases hu0 : c.out = 0
          · have k2 : ((c.out : Int) == 0) = true := by rw [eq0_dec]; exact decide_eq_true hu0
            have HS := Lib.hid (forL_stop C.out HV.out ⟨hw0, hu0⟩ R.out.done)
            clear hw0 hu0
            go_wp2_with fail
            go_ret
            exact ⟨some ⟨g, 0, none⟩, cap', by rw [HS.out, List.length_append, List.length_singleton]; rfl, by rw [HS.out, List.length_append, List.length_singleton]; exact own_base O7.out hsz, gb_trans BB.out B7.out⟩
          · have k2 : ((c.out : Int) == 0) = false := by rw [eq0_dec]; exact decide_eq_false hu0
            have HS := Lib.hid (forL_take C.out HV.out (fun q => hu0 q.2) R.out.done)
            clear hw0 hu0
            go_wp2_with fail
            go_roundw
            case rel => exact ⟨k + 1, pre ++ [bareCl c], by go_num, by omega, HS.out, by simp; omega, B7.out, O7.out⟩
            case measure => simp [intOf] <;> omega
        · have k1 : ((c.wi : Int) == 0) = false := by rw [eq0_dec]; exact decide_eq_false hw0
          have HS := Lib.hid (forL_take C.out HV.out (fun q => hw0 q.1) R.out.done)
          clear hw0
          go_wp2_with fail
          go_roundw
          case rel => exact ⟨k + 1, pre ++ [bareCl c], by go_num, by omega, HS.out, by simp; omega, B7.out, O7.out⟩
          case measure => simp [intOf] <;> omega
      | false =>
        rw [hany] at x0
        have HC := Lib.hid (covers_any c.px o hcok.px ho)
        go_wp2_with fail
        refine (HC.out _).mono ?_
        rintro e w2 ⟨rfl, hb1⟩
        have t0 := gb_blk hb1 T0.out (gb_lt T0.out)
        have BQ := Lib.hid (gb_trans HBQ.out hb1)
        have OQ := Lib.hid (ow_below HO.out hb1)
        clear hb1 x0 x1 x2 q0 q1 T0 HBQ HO
        cases hcv : coversB c.px o with
        | false =>
          have HS := Lib.hid (forL_skip C.out (show forB c o = false by simp [forB, hany, hcv]) R.out.done)
          clear hcv hany t0
          go_wp2_with fail
          go_roundw
          case rel => exact ⟨k + 1, pre, by go_num, by omega, HS.out, by have := R.out.few; omega, BQ.out, OQ.out⟩
          case measure => simp [intOf] <;> omega
        | true =>
          have HV : Hid (forB c o = true) := Lib.hid (by simp [forB, hcv])
          clear hcv hany
          go_upto_region 6 with fail
          have y0 : w2.cell? ⟨wr.heap.size, 0, none⟩ = some (.bool c.any) := gb_cell t0 0
          have y1 : w2.cell? ⟨wr.heap.size, 1, none⟩ = some (.int .u32 c.px.addr) := gb_cell t0 1
          have y2 : w2.cell? ⟨wr.heap.size, 2, none⟩ = some (.int .i64 c.px.bits) := gb_cell t0 2
          have f0 := gb_free t0 0
          have f1 := gb_free t0 1
          have f2 := gb_free t0 2
          have z0 := gb_lt t0
          have u0 := gb_set (gb_set (gb_set t0 0 (.bool true)) 1 (.int .u32 0)) 2 (.int .i64 0)
          have U0 : Hid ((((w2.setCell ⟨wr.heap.size, 0, none⟩ (.bool true)).setCell ⟨wr.heap.size, 1, none⟩ (.int .u32 0)).setCell ⟨wr.heap.size, 2, none⟩ (.int .i64 0)).heap[wr.heap.size]? = some (.cells (bareCells c) 80 (0, 0))) := Lib.hid u0
          have BU := Lib.hid (((BQ.out.setCell (p := ⟨wr.heap.size, 0, none⟩) (by simp; omega) (.bool true)).setCell (p := ⟨wr.heap.size, 1, none⟩) (by simp; omega) (.int .u32 0)).setCell (p := ⟨wr.heap.size, 2, none⟩) (by simp; omega) (.int .i64 0))
          have OU : Hid (OwnsCls (((w2.setCell ⟨wr.heap.size, 0, none⟩ (.bool true)).setCell ⟨wr.heap.size, 1, none⟩ (.int .u32 0)).setCell ⟨wr.heap.size, 2, none⟩ (.int .i64 0)) W.heap.size (.slice Av pre.length cv) pre) := Lib.hid (ow_move OQ.out fun j h1 h2 h3 => by
            have hj := (R.out.owns.lt j h3).2
            rw [Below.heap_setCell _ _ _ _ (show j ≠ wr.heap.size by omega), Below.heap_setCell _ _ _ _ (show j ≠ wr.heap.size by omega), Below.heap_setCell _ _ _ _ (show j ≠ wr.heap.size by omega)])
          have sU : W.heap.size ≤ ((((w2.setCell ⟨wr.heap.size, 0, none⟩ (.bool true)).setCell ⟨wr.heap.size, 1, none⟩ (.int .u32 0)).setCell ⟨wr.heap.size, 2, none⟩ (.int .i64 0))).heap.size := BU.out.size
          clear u0 t0
          go_upto_region 7 with fail
          clear y0 y1 y2 f0 f1 f2 z0
          generalize (((w2.setCell ⟨wr.heap.size, 0, none⟩ (.bool true)).setCell ⟨wr.heap.size, 1, none⟩ (.int .u32 0)).setCell ⟨wr.heap.size, 2, none⟩ (.int .i64 0)) = wu at *
          have u0 := U0.out
          unfold bareCells at u0
          have v0 : wu.cell? ⟨wr.heap.size, 0, none⟩ = some (.bool true) := gb_cell u0 0
          have v1 : wu.cell? ⟨wr.heap.size, 1, none⟩ = some (.int .u32 0) := gb_cell u0 1
          have v2 : wu.cell? ⟨wr.heap.size, 2, none⟩ = some (.int .i64 0) := gb_cell u0 2
          have v3 : wu.cell? ⟨wr.heap.size, 3, none⟩ = some (.int .u8 c.wi) := gb_cell u0 3
          have v4 : wu.cell? ⟨wr.heap.size, 4, none⟩ = some (.int .u8 c.out) := gb_cell u0 4
          have v5 : wu.cell? ⟨wr.heap.size, 5, none⟩ = some (.bool c.drop) := gb_cell u0 5
          have v6 : wu.cell? ⟨wr.heap.size, 6, none⟩ = some (.int .u8 c.set) := gb_cell u0 6
          have v7 : wu.cell? ⟨wr.heap.size, 7, none⟩ = some (.int .u8 c.clr) := gb_cell u0 7
          have v8 : wu.cell? ⟨wr.heap.size, 8, none⟩ = some (.int .i64 c.more) := gb_cell u0 8
          have v9 : wu.cell? ⟨wr.heap.size, 9, none⟩ = some (.int .i64 c.pref) := gb_cell u0 9
          have su := gb_lt u0
          clear u0
          obtain ⟨i0, hi0, hz0, hz1, hz2⟩ := info_parts clause_info
          have hfew := R.out.few
          have hne : some wr.heap.size ≠ (Value.slice Av pre.length cv).ownBlock := fun e => by have := (R.out.owns.lt _ e.symm).2; omega
          have HNE := Lib.hid hne
          clear hne
          go_upto_region 8 with (at_builtin; refine wpList_append_lies _ rfl _ _ _ rfl W.heap.size 80 i0 _ 10 48 Tryd.underlying34 hi0 hz0 hz1 hz2 rfl (by omega) _ pre.length (pre.flatMap clc) rfl (ow_alloc OU.out _) ⟨wu.heap.size, 0, none⟩ 1 1 (clc (bareCl c)) rfl rfl (World.news_of_block (cs := bareCells c) (heap_alloc_new wu _)) (by intro u hu; simp [clc] at hu; rcases hu with rfl | rfl | rfl | rfl | rfl | rfl | rfl | rfl | rfl | rfl <;> rfl) (by omega) (by unfold maxLen; omega) (by omega) (by simp; omega) _ rfl ?_; intro g cap' w7 hown7 hgrow hat hlt7)
          have t3 : w7.cell? ⟨wr.heap.size, 3, none⟩ = some (.int .u8 c.wi) := hgrow.cell ((World.cell?_alloc_lt wu _ ⟨wr.heap.size, 3, none⟩ su).trans v3) HNE.out
          have t4 : w7.cell? ⟨wr.heap.size, 4, none⟩ = some (.int .u8 c.out) := hgrow.cell ((World.cell?_alloc_lt wu _ ⟨wr.heap.size, 4, none⟩ su).trans v4) HNE.out
          have B7 := Lib.hid (ow_grown (gb_alloc BU.out _) hgrow OU.out (by simp; omega))
          have O7 : Hid (OwnsCls w7 W.heap.size (.slice (some ⟨g, 0, none⟩) (pre.length + 1) cap') (pre ++ [bareCl c])) := Lib.hid (by have := hown7; unfold OwnsCls; rw [List.length_append, List.flatMap_append, List.length_singleton]; simpa using this)
          clear v0 v1 v2 v3 v4 v5 v6 v7 v8 v9 hgrow hat hown7 hi0 hz0 hz1 hz2
          by_cases hw0 : c.wi = 0
          · have k1 : ((c.wi : Int) == 0) = true := by rw [eq0_dec]; exact decide_eq_true hw0
            by_cases hu0 : c.out = 0
            · have k2 : ((c.out : Int) == 0) = true := by rw [eq0_dec]; exact decide_eq_true hu0
              have HS := Lib.hid (forL_stop C.out HV.out ⟨hw0, hu0⟩ R.out.done)
              clear hw0 hu0
              go_wp2_with fail
              go_ret
              exact ⟨some ⟨g, 0, none⟩, cap', by rw [HS.out, List.length_append, List.length_singleton]; rfl, by rw [HS.out, List.length_append, List.length_singleton]; exact own_base O7.out hsz, gb_trans BB.out B7.out⟩
            · have k2 : ((c.out : Int) == 0) = false := by rw [eq0_dec]; exact decide_eq_false hu0
              have HS := Lib.hid (forL_take C.out HV.out (fun q => hu0 q.2) R.out.done)
              clear hw0 hu0
              go_wp2_with fail
              go_roundw
              case rel => exact ⟨k + 1, pre ++ [bareCl c], by go_num, by omega, HS.out, by simp; omega, B7.out, O7.out⟩
              case measure => simp [intOf] <;> omega
          · have k1 : ((c.wi : Int) == 0) = false := by rw [eq0_dec]; exact decide_eq_false hw0
            have HS := Lib.hid (forL_take C.out HV.out (fun q => hw0 q.1) R.out.done)
            clear hw0
            go_wp2_with fail
            go_roundw
            case rel => exact ⟨k + 1, pre ++ [bareCl c], by go_num, by omega, HS.out, by simp; omega, B7.out, O7.out⟩
            case measure => simp [intOf] <;> omega
    · have hk' : k = cs.length := by omega
      subst hk'
      have HF : Hid (forL cs o = pre) := Lib.hid (by have := R.out.done; simpa [forL] using this)
      clear hk
      go_wp2_with fail
      go_ret
      exact ⟨Av, cv, by rw [HF.out]; rfl, by rw [HF.out]; exact own_base R.out.owns hsz, gb_trans BB.out R.out.below⟩
end Go.Proofs.YtimlfmklbfgliaaDoor
