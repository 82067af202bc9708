import Derived.Test.YtbbgiockmblamaaEq
import Derived.Test.YtbbgiockmblamaaRdt
import Derived.Test.YtbbgiockmblamaaEl
import Derived.Test.YtbbgiockmblamaaEqC
import Derived.BigQuiet
import Derived.Deep.CutBlock
set_option linter.unusedVariables false
namespace Go.Proofs.Ytbbgiockmblamaa
open Go.RowKit Mq

theorem pr_cells {W : World} {b : Nat} {x y z : Value} {t : TypeId} (h : W.heap[b]? = some (.cells #[x, y, z] t (0, 0))) : W.cell? ⟨b, 1, none⟩ = some y ∧ W.cell? ⟨b, 2, none⟩ = some z := ⟨gb_cell h 1, gb_cell h 2⟩
theorem or_zero {x y : Nat} (hx : x < 256) (hy : y < 256) : (bits .or .u8 (x : Int) (y : Int) == 0) = decide (x = 0 ∧ y = 0) := by
  rw [u8_or_nat _ _ hx hy, Bool.eq_iff_iff]
  simp
structure PrV where
  A : Option Addr
  cap : Nat
  l : List Cl
  q : Pfx
def prc (p : PrV) : List Value := [.slice p.A p.l.length p.cap, .int .u32 p.q.addr, .int .i64 p.q.bits]
structure PrOk (w : World) (p : PrV) : Prop where
  at_ : ClsAt w w.heap.size p.A p.l
  ok : ∀ c ∈ p.l, c.Ok
  q : p.q.Ok
  len : p.l.length * 48 ≤ 140737488351232
theorem PrOk.below {w w' : World} {p : PrV} (h : PrOk w p) (hb : Below w.heap.size w w') : PrOk w' p := ⟨(h.at_.below hb).more hb.size, h.ok, h.q, h.len⟩
theorem prs_get {w : World} {B b : Nat} {es : List PrV} (h : Sli prc 3 w B (some ⟨b, 0, none⟩) es) {k : Nat} {e : PrV} (hk : es[k]? = some e) :
    w.cell? ⟨b, k * 3, none⟩ = some (.slice e.A e.l.length e.cap) ∧ w.cell? ⟨b, k * 3 + 1, none⟩ = some (.int .u32 e.q.addr) ∧ w.cell? ⟨b, k * 3 + 2, none⟩ = some (.int .i64 e.q.bits) := by
  obtain ⟨b', off, hA, hB, hc⟩ := h (by have := (List.getElem?_eq_some_iff.1 hk).1; omega)
  injection hA with hA
  injection hA with h1 h2
  subst h1; subst h2
  have := hc k e hk
  simp only [Nat.zero_add] at this
  exact ⟨this 0 (by omega), this 1 (by omega), this 2 (by omega)⟩

attribute [local go_sem high] eq_clause
set_option maxRecDepth 100000 in
set_option maxHeartbeats 4000000 in
theorem walk_ClauseFew0 (s : SlV Rul) (n : Nat) (r : SlV Cl) (o : Pfx) (w : World) (hs : SlOk rulc 6 (fun _ r => r.Ok) w s) (hn : n < 256) (hr : SlOk clc 10 (fun _ c => c.Ok) w r) (ho : o.Ok) (hb : r.l.length * 48 ≤ 140737488351232) :
    Calls Try.prog 9 #[.slice s.A s.l.length s.cap, .int .u8 n, .slice r.A r.l.length r.cap, .agg (pfxc o).toArray] w fun e w' => e = .returned (.bool true) ∧ Below w.heap.size w w' := by
  have S := Lib.hid hs; have R := Lib.hid hr; have HR := Lib.hid hb
  clear hs hr hb
  unfold pfxc
  go_enter Try.func9, Try.ntmps9
  go_wp2_with fail
  have b7 := gb_new w (.cells #[.int .u32 o.addr, .int .i64 o.bits] 28)
  have hB := gb_alloc (Below.refl w.heap.size w) (.cells #[.int .u32 o.addr, .int .i64 o.bits] 28)
  generalize w.alloc (.cells #[.int .u32 o.addr, .int .i64 o.bits] 28) = W0 at *
  refine (awake11 W0).mono ?_
  rintro e w1 ⟨rfl, hb⟩
  have C7 := Lib.hid (gb_blk hb b7 (gb_lt b7))
  have B1 := Lib.hid (gb_trans hB hb)
  clear b7 hB hb
  go_wp2_with fail
  refine (make_any n hn w1).mono ?_
  rintro e w2 ⟨rfl, hb⟩
  have HPO := Lib.hid (mkP_ok hn)
  generalize mkP n = t at *
  unfold pfxv
  have b7 := gb_old _ (.cells #[.int .u32 t.addr, .int .i64 t.bits] 28) (gb_blk hb C7.out (gb_lt C7.out))
  have bt := gb_new w2 (.cells #[.int .u32 t.addr, .int .i64 t.bits] 28)
  have hB3 := gb_alloc (gb_trans B1.out hb) (.cells #[.int .u32 t.addr, .int .i64 t.bits] 28)
  clear hb C7
  go_upto_region 4 with fail
  generalize w2.alloc (.cells #[.int .u32 t.addr, .int .i64 t.bits] 28) = w3 at *
  have B3 := Lib.hid hB3
  have hS : ∀ w', Below w3.heap.size w3 w' → w'.cell? ⟨w.heap.size, 0, none⟩ = some (.int .u32 o.addr) ∧ w'.cell? ⟨w.heap.size, 1, none⟩ = some (.int .i64 o.bits) ∧ w'.cell? ⟨w2.heap.size, 0, none⟩ = some (.int .u32 t.addr) ∧ w'.cell? ⟨w2.heap.size, 1, none⟩ = some (.int .i64 t.bits) := fun w' hb => by
    have h := gb_blk hb b7 (gb_lt b7)
    have h' := gb_blk hb bt (gb_lt bt)
    exact ⟨gb_cell h 0, gb_cell h 1, gb_cell h' 0, gb_cell h' 1⟩
  have HS := Lib.hid hS
  have BD := Lib.hid ((Below.refl w3.heap.size w3).drew)
  clear hS b7 bt hB3
  go_region_held3 (fun w' => w'.cell? ⟨w.heap.size, 0, none⟩ = some (.int .u32 o.addr) ∧ w'.cell? ⟨w.heap.size, 1, none⟩ = some (.int .i64 o.bits) ∧ w'.cell? ⟨w2.heap.size, 0, none⟩ = some (.int .u32 t.addr) ∧ w'.cell? ⟨w2.heap.size, 1, none⟩ = some (.int .i64 t.bits))
    (first | exact HS.out _ BD.out | exact HS.out _ B8.out | go_keep)
    (first | (go_at_call_of 16 s.A; refine (clauses_any s.A s.cap s.l S.out.ok _ ((S.out.at_.below (gb_trans B3.out BD.out)).more (gb_trans B3.out BD.out).size) S.out.len_le).mono ?_; rintro e w8 ⟨Ac, cc, rfl, hown, hb8⟩; have B8 := Lib.hid (gb_trans BD.out hb8); have SC := Lib.hid hown.at_; clear hown hb8))
  go_wp2_with fail
  have HCL := ruleCls_len s.l
  have hpo : ∀ x ∈ [PrV.mk Ac cc (ruleCls s.l) t, PrV.mk r.A r.cap r.l o], PrOk (w8.alloc (.cells #[.slice Ac (ruleCls s.l).length cc, .int .u32 t.addr, .int .i64 t.bits, .slice r.A r.l.length r.cap, .int .u32 o.addr, .int .i64 o.bits] 53)) x := by
    intro x hx
    simp only [List.mem_cons, List.not_mem_nil, or_false] at hx
    have hb := gb_alloc (Below.refl w8.heap.size w8) (.cells #[.slice Ac (ruleCls s.l).length cc, .int .u32 t.addr, .int .i64 t.bits, .slice r.A r.l.length r.cap, .int .u32 o.addr, .int .i64 o.bits] 53)
    have hB := gb_trans (gb_trans B3.out B8.out) hb
    rcases hx with rfl | rfl
    · exact ⟨(SC.out.below hb).more hb.size, ruleCls_ok S.out.ok, HPO.out, by simp only; omega⟩
    · exact ⟨(R.out.at_.below hB).more hB.size, R.out.ok, ho, HR.out⟩
  have hcl : Sli prc 3 (w8.alloc (.cells #[.slice Ac (ruleCls s.l).length cc, .int .u32 t.addr, .int .i64 t.bits, .slice r.A r.l.length r.cap, .int .u32 o.addr, .int .i64 o.bits] 53)) (w8.alloc (.cells #[.slice Ac (ruleCls s.l).length cc, .int .u32 t.addr, .int .i64 t.bits, .slice r.A r.l.length r.cap, .int .u32 o.addr, .int .i64 o.bits] 53)).heap.size (some ⟨w8.heap.size, 0, none⟩) [PrV.mk Ac cc (ruleCls s.l) t, PrV.mk r.A r.cap r.l o] := Sli.both (gb_new w8 (.cells #[.slice Ac (ruleCls s.l).length cc, .int .u32 t.addr, .int .i64 t.bits, .slice r.A r.l.length r.cap, .int .u32 o.addr, .int .i64 o.bits] 53)) (by simp) (fun _ => rfl)
  have hBL := gb_trans (gb_trans B3.out B8.out) (gb_alloc (Below.refl w8.heap.size w8) (.cells #[.slice Ac (ruleCls s.l).length cc, .int .u32 t.addr, .int .i64 t.bits, .slice r.A r.l.length r.cap, .int .u32 o.addr, .int .i64 o.bits] 53))
  generalize w8.alloc (.cells #[.slice Ac (ruleCls s.l).length cc, .int .u32 t.addr, .int .i64 t.bits, .slice r.A r.l.length r.cap, .int .u32 o.addr, .int .i64 o.bits] 53) = Wl at *
  obtain ⟨prs, hprs, hpl⟩ : ∃ l, l = [PrV.mk Ac cc (ruleCls s.l) t, PrV.mk r.A r.cap r.l o] ∧ l.length = 2 := ⟨_, rfl, rfl⟩
  rw [← hprs] at hpo hcl
  have HP := Lib.hid hpo
  have HL := Lib.hid hcl
  have BL := Lib.hid hBL
  have HPL := Lib.hid hpl
  clear hprs hpo hcl hBL hpl HS BD B8 SC HCL
  go_loopw [31] (fun i wr => ∃ k : Nat, i = .int .i64 k ∧ k ≤ 2 ∧ Below Wl.heap.size Wl wr) (fun i _ => 2 - (intOf i).toNat)
  case atStart => exact ⟨0, rfl, by omega, Below.refl _ _⟩
  case round =>
    obtain ⟨ko, rfl, hko, hb⟩ := hrel
    have Bo := Lib.hid hb
    by_cases hlo : ko < 2
    · obtain ⟨x, hx⟩ : ∃ x, prs[ko]? = some x := ⟨_, List.getElem?_eq_getElem (by have := HPL.out; omega)⟩
      have hxok := HP.out x (List.mem_of_getElem? hx)
      obtain ⟨e0, e1, e2⟩ := prs_get (HL.out.below hb) hx
      have X := Lib.hid (hxok.below Bo.out)
      clear hx hb hxok
      have hdo : decide ((ko : Int) < 2) = true := by simp; omega
      go_upto_region 7 with fail
      have b11 := gb_new wr (.cells #[.slice x.A x.l.length x.cap, .int .u32 x.q.addr, .int .i64 x.q.bits] 53)
      have X2 := Lib.hid (X.out.below (gb_alloc (Below.refl wr.heap.size wr) (.cells #[.slice x.A x.l.length x.cap, .int .u32 x.q.addr, .int .i64 x.q.bits] 53)))
      have BW := Lib.hid (gb_trans Bo.out (gb_alloc (Below.refl wr.heap.size wr) (.cells #[.slice x.A x.l.length x.cap, .int .u32 x.q.addr, .int .i64 x.q.bits] 53)))
      clear e0 e1 e2 X
      generalize wr.alloc (.cells #[.slice x.A x.l.length x.cap, .int .u32 x.q.addr, .int .i64 x.q.bits] 53) = W at *
      generalize wr.heap.size = bp at *
      have B0 := Lib.hid b11
      clear b11
      obtain ⟨A, cap, cs, o⟩ := x
      simp only at *
      have S : Hid (ClsAt W W.heap.size A cs) := Lib.hid X2.out.at_
      have hcs : ∀ c ∈ cs, c.Ok := X2.out.ok
      have ho : o.Ok := X2.out.q
      have hn : cs.length * 48 ≤ 140737488351232 := X2.out.len
      have hn' : cs.length ≤ 9223372036854775807 := by omega
      have q2 := gb_lt B0.out
      have z0 := gb_cell B0.out 0
      have z1 := gb_cell B0.out 1
      have z2 := gb_cell B0.out 2
      simp only [List.getElem?_toArray] at z0 z1 z2
      go_upto_block 2 with fail
      go_cut [12, 14] from 38 to 66 (fun s12 s14 wx => ∃ Av cv, s12 = .slice Av (forL cs o).length cv ∧ OwnsCls wx W.heap.size (.slice Av (forL cs o).length cv) (forL cs o) ∧ Below W.heap.size W wx)
      case first =>
        go_wp2_with fail
        go_loopw [12, 14, 38] (fun v _ i wr => ∃ k pre, i = .int .i64 (k : Nat) ∧ k ≤ cs.length ∧ ForRel cs o W wr v k pre) (fun _ _ i _ => cs.length - (intOf i).toNat)
        case atStart => exact ⟨0, [], rfl, by omega, ⟨rfl, by simp, Below.refl _ _, World.ownsRow_nil _ _ _ _⟩⟩
        case round =>
          obtain ⟨k, pre, rfl, hk, hrel⟩ := hrel
          obtain ⟨Av, cv, rfl⟩ := hrel.owns.form
          have R := Lib.hid hrel
          clear hrel
          by_cases hlt : k < cs.length
          · obtain ⟨c, hc⟩ : ∃ c, cs[k]? = some c := ⟨_, List.getElem?_eq_getElem hlt⟩
            obtain ⟨b, off, rfl, hbb, e0, e1, e2, e3, e4, e5, e6, e7, e8, e9⟩ := ClsAt.get (S.out.below R.out.below) hc
            have p0 := gb_blk R.out.below B0.out (gb_lt B0.out)
            obtain ⟨q0, q1⟩ := pr_cells p0
            have s0 := gb_lt p0
            have P0 := Lib.hid p0; have C := Lib.hid hc
            have hcok := hcs c (List.mem_of_getElem? hc)
            clear p0 hc
            go_upto_region 11 with fail
            have t0 := gb_new wr (.cells #[.bool c.any, .int .u32 c.px.addr, .int .i64 c.px.bits, .int .u8 c.wi, .int .u8 c.out, .bool c.drop, .int .u8 c.set, .int .u8 c.clr, .int .i64 c.more, .int .i64 c.pref] 35)
            have t3 := gb_old wr (.cells #[.bool c.any, .int .u32 c.px.addr, .int .i64 c.px.bits, .int .u8 c.wi, .int .u8 c.out, .bool c.drop, .int .u8 c.set, .int .u8 c.clr, .int .i64 c.more, .int .i64 c.pref] 35) P0.out
            have hbq := gb_trans R.out.below (gb_alloc (Below.refl wr.heap.size wr) (.cells #[.bool c.any, .int .u32 c.px.addr, .int .i64 c.px.bits, .int .u8 c.wi, .int .u8 c.out, .bool c.drop, .int .u8 c.set, .int .u8 c.clr, .int .i64 c.more, .int .i64 c.pref] 35))
            have hown := ow_alloc R.out.owns (.cells #[.bool c.any, .int .u32 c.px.addr, .int .i64 c.px.bits, .int .u8 c.wi, .int .u8 c.out, .bool c.drop, .int .u8 c.set, .int .u8 c.clr, .int .i64 c.more, .int .i64 c.pref] 35)
            clear e0 e1 e2 e3 e4 e5 e6 e7 e8 e9 q0 q1
            generalize wr.alloc (.cells #[.bool c.any, .int .u32 c.px.addr, .int .i64 c.px.bits, .int .u8 c.wi, .int .u8 c.out, .bool c.drop, .int .u8 c.set, .int .u8 c.clr, .int .i64 c.more, .int .i64 c.pref] 35) = w1 at *
            obtain ⟨q0, q1⟩ := pr_cells t3
            have x0 : w1.cell? ⟨wr.heap.size, 0, none⟩ = some (.bool c.any) := gb_cell t0 0
            have x1 : w1.cell? ⟨wr.heap.size, 1, none⟩ = some (.int .u32 c.px.addr) := gb_cell t0 1
            have x2 : w1.cell? ⟨wr.heap.size, 2, none⟩ = some (.int .i64 c.px.bits) := gb_cell t0 2
            have T0 := Lib.hid t0
            have HBQ := Lib.hid hbq
            have HO := Lib.hid hown
            have sW := R.out.below.size
            clear t0 t3 hbq hown
            cases hany : c.any with
            | true =>
              rw [hany] at x0
              have HV : Hid (forB c o = true) := Lib.hid (by simp [forB, hany])
              clear hany
              have t0 := T0.out
              have BQ := HBQ
              have OQ := HO
              clear T0 HBQ HO
              go_upto_region 12 with fail
              have y0 : w1.cell? ⟨wr.heap.size, 0, none⟩ = some (.bool c.any) := gb_cell t0 0
              have y1 : w1.cell? ⟨wr.heap.size, 1, none⟩ = some (.int .u32 c.px.addr) := gb_cell t0 1
              have y2 : w1.cell? ⟨wr.heap.size, 2, none⟩ = some (.int .i64 c.px.bits) := gb_cell t0 2
              have f0 := gb_free t0 0
              have f1 := gb_free t0 1
              have f2 := gb_free t0 2
              have z0 := gb_lt t0
              have u0 := gb_set (gb_set (gb_set t0 0 (.bool true)) 1 (.int .u32 0)) 2 (.int .i64 0)
              have U0 : Hid ((((w1.setCell ⟨wr.heap.size, 0, none⟩ (.bool true)).setCell ⟨wr.heap.size, 1, none⟩ (.int .u32 0)).setCell ⟨wr.heap.size, 2, none⟩ (.int .i64 0)).heap[wr.heap.size]? = some (.cells (bareCells c) 35 (0, 0))) := Lib.hid u0
              have BU := Lib.hid (((BQ.out.setCell (p := ⟨wr.heap.size, 0, none⟩) (by simp; omega) (.bool true)).setCell (p := ⟨wr.heap.size, 1, none⟩) (by simp; omega) (.int .u32 0)).setCell (p := ⟨wr.heap.size, 2, none⟩) (by simp; omega) (.int .i64 0))
              have OU : Hid (OwnsCls (((w1.setCell ⟨wr.heap.size, 0, none⟩ (.bool true)).setCell ⟨wr.heap.size, 1, none⟩ (.int .u32 0)).setCell ⟨wr.heap.size, 2, none⟩ (.int .i64 0)) W.heap.size (.slice Av pre.length cv) pre) := Lib.hid (ow_move OQ.out fun j h1 h2 h3 => by
                have hj := (R.out.owns.lt j h3).2
                rw [Below.heap_setCell _ _ _ _ (show j ≠ wr.heap.size by omega), Below.heap_setCell _ _ _ _ (show j ≠ wr.heap.size by omega), Below.heap_setCell _ _ _ _ (show j ≠ wr.heap.size by omega)])
              have sU : W.heap.size ≤ ((((w1.setCell ⟨wr.heap.size, 0, none⟩ (.bool true)).setCell ⟨wr.heap.size, 1, none⟩ (.int .u32 0)).setCell ⟨wr.heap.size, 2, none⟩ (.int .i64 0))).heap.size := BU.out.size
              clear u0 t0
              go_upto_region 13 with fail
              clear y0 y1 y2 f0 f1 f2 z0
              generalize (((w1.setCell ⟨wr.heap.size, 0, none⟩ (.bool true)).setCell ⟨wr.heap.size, 1, none⟩ (.int .u32 0)).setCell ⟨wr.heap.size, 2, none⟩ (.int .i64 0)) = wu at *
              have u0 := U0.out
              unfold bareCells at u0
              have v0 : wu.cell? ⟨wr.heap.size, 0, none⟩ = some (.bool true) := gb_cell u0 0
              have v1 : wu.cell? ⟨wr.heap.size, 1, none⟩ = some (.int .u32 0) := gb_cell u0 1
              have v2 : wu.cell? ⟨wr.heap.size, 2, none⟩ = some (.int .i64 0) := gb_cell u0 2
              have v3 : wu.cell? ⟨wr.heap.size, 3, none⟩ = some (.int .u8 c.wi) := gb_cell u0 3
              have v4 : wu.cell? ⟨wr.heap.size, 4, none⟩ = some (.int .u8 c.out) := gb_cell u0 4
              have v5 : wu.cell? ⟨wr.heap.size, 5, none⟩ = some (.bool c.drop) := gb_cell u0 5
              have v6 : wu.cell? ⟨wr.heap.size, 6, none⟩ = some (.int .u8 c.set) := gb_cell u0 6
              have v7 : wu.cell? ⟨wr.heap.size, 7, none⟩ = some (.int .u8 c.clr) := gb_cell u0 7
              have v8 : wu.cell? ⟨wr.heap.size, 8, none⟩ = some (.int .i64 c.more) := gb_cell u0 8
              have v9 : wu.cell? ⟨wr.heap.size, 9, none⟩ = some (.int .i64 c.pref) := gb_cell u0 9
              have su := gb_lt u0
              clear u0
              obtain ⟨i0, hi0, hz0, hz1, hz2⟩ := info_parts clause_info
              have hfew := R.out.few
              have hne : some wr.heap.size ≠ (Value.slice Av pre.length cv).ownBlock := fun e => by have := (R.out.owns.lt _ e.symm).2; omega
              have HNE := Lib.hid hne
              clear hne
              go_upto_region 14 with (at_builtin; refine wpList_append_lies _ rfl _ _ _ rfl W.heap.size 35 i0 _ 10 48 Try.underlying25 hi0 hz0 hz1 hz2 rfl (by omega) _ pre.length (pre.flatMap clc) rfl (ow_alloc OU.out _) ⟨wu.heap.size, 0, none⟩ 1 1 (clc (bareCl c)) rfl rfl (World.news_of_block (cs := bareCells c) (heap_alloc_new wu _)) (by intro u hu; simp [clc] at hu; rcases hu with rfl | rfl | rfl | rfl | rfl | rfl | rfl | rfl | rfl | rfl <;> rfl) (by omega) (by unfold maxLen; omega) (by omega) (by simp; omega) _ rfl ?_; intro g cap' w7 hown7 hgrow hat hlt7)
              have t3 : w7.cell? ⟨wr.heap.size, 3, none⟩ = some (.int .u8 c.wi) := hgrow.cell ((World.cell?_alloc_lt wu _ ⟨wr.heap.size, 3, none⟩ su).trans v3) HNE.out
              have t4 : w7.cell? ⟨wr.heap.size, 4, none⟩ = some (.int .u8 c.out) := hgrow.cell ((World.cell?_alloc_lt wu _ ⟨wr.heap.size, 4, none⟩ su).trans v4) HNE.out
              have B7 := Lib.hid (ow_grown (gb_alloc BU.out _) hgrow OU.out (by simp; omega))
              have O7 : Hid (OwnsCls w7 W.heap.size (.slice (some ⟨g, 0, none⟩) (pre.length + 1) cap') (pre ++ [bareCl c])) := Lib.hid (by have := hown7; unfold OwnsCls; rw [List.length_append, List.flatMap_append, List.length_singleton]; simpa using this)
              clear v0 v1 v2 v3 v4 v5 v6 v7 v8 v9 hgrow hat hown7 hi0 hz0 hz1 hz2
              by_cases hw0 : c.wi = 0
              · have k1 : ((c.wi : Int) == 0) = true := by rw [eq0_dec]; exact decide_eq_true hw0
                by_cases hu0 : c.out = 0
                · have k2 : ((c.out : Int) == 0) = true := by rw [eq0_dec]; exact decide_eq_true hu0
                  have k12 := (or_zero hcok.wi hcok.out).trans (decide_eq_true ⟨hw0, hu0⟩)
                  have HS := Lib.hid (forL_stop C.out HV.out ⟨hw0, hu0⟩ R.out.done)
                  clear hw0 hu0
                  go_wp2_with fail
                  go_meet
                  exact ⟨some ⟨g, 0, none⟩, cap', by rw [HS.out, List.length_append, List.length_singleton], by rw [HS.out, List.length_append, List.length_singleton]; exact O7.out, B7.out⟩
                · have k2 : ((c.out : Int) == 0) = false := by rw [eq0_dec]; exact decide_eq_false hu0
                  have k12 := (or_zero hcok.wi hcok.out).trans (decide_eq_false (fun q => hu0 q.2))
                  have HS := Lib.hid (forL_take C.out HV.out (fun q => hu0 q.2) R.out.done)
                  clear hw0 hu0
                  go_wp2_with fail
                  go_roundw
                  case rel => exact ⟨k + 1, pre ++ [bareCl c], by go_num, by omega, HS.out, by simp; omega, B7.out, O7.out⟩
                  case measure => simp [intOf] <;> omega
              · have k1 : ((c.wi : Int) == 0) = false := by rw [eq0_dec]; exact decide_eq_false hw0
                have k12 := (or_zero hcok.wi hcok.out).trans (decide_eq_false (fun q => hw0 q.1))
                have HS := Lib.hid (forL_take C.out HV.out (fun q => hw0 q.1) R.out.done)
                clear hw0
                go_wp2_with fail
                go_roundw
                case rel => exact ⟨k + 1, pre ++ [bareCl c], by go_num, by omega, HS.out, by simp; omega, B7.out, O7.out⟩
                case measure => simp [intOf] <;> omega
            | false =>
              rw [hany] at x0
              have HC := Lib.hid (covers_any c.px o hcok.px ho)
              go_wp2_with fail
              refine (HC.out _).mono ?_
              rintro e w2 ⟨rfl, hb1⟩
              have t0 := gb_blk hb1 T0.out (gb_lt T0.out)
              have BQ := Lib.hid (gb_trans HBQ.out hb1)
              have OQ := Lib.hid (ow_below HO.out hb1)
              clear hb1 x0 x1 x2 q0 q1 T0 HBQ HO
              cases hcv : coversB c.px o with
              | false =>
                have HS := Lib.hid (forL_skip C.out (show forB c o = false by simp [forB, hany, hcv]) R.out.done)
                clear hcv hany t0
                go_wp2_with fail
                go_roundw
                case rel => exact ⟨k + 1, pre, by go_num, by omega, HS.out, by have := R.out.few; omega, BQ.out, OQ.out⟩
                case measure => simp [intOf] <;> omega
              | true =>
                have HV : Hid (forB c o = true) := Lib.hid (by simp [forB, hcv])
                clear hcv hany
                go_upto_region 12 with fail
                have y0 : w2.cell? ⟨wr.heap.size, 0, none⟩ = some (.bool c.any) := gb_cell t0 0
                have y1 : w2.cell? ⟨wr.heap.size, 1, none⟩ = some (.int .u32 c.px.addr) := gb_cell t0 1
                have y2 : w2.cell? ⟨wr.heap.size, 2, none⟩ = some (.int .i64 c.px.bits) := gb_cell t0 2
                have f0 := gb_free t0 0
                have f1 := gb_free t0 1
                have f2 := gb_free t0 2
                have z0 := gb_lt t0
                have u0 := gb_set (gb_set (gb_set t0 0 (.bool true)) 1 (.int .u32 0)) 2 (.int .i64 0)
                have U0 : Hid ((((w2.setCell ⟨wr.heap.size, 0, none⟩ (.bool true)).setCell ⟨wr.heap.size, 1, none⟩ (.int .u32 0)).setCell ⟨wr.heap.size, 2, none⟩ (.int .i64 0)).heap[wr.heap.size]? = some (.cells (bareCells c) 35 (0, 0))) := Lib.hid u0
                have BU := Lib.hid (((BQ.out.setCell (p := ⟨wr.heap.size, 0, none⟩) (by simp; omega) (.bool true)).setCell (p := ⟨wr.heap.size, 1, none⟩) (by simp; omega) (.int .u32 0)).setCell (p := ⟨wr.heap.size, 2, none⟩) (by simp; omega) (.int .i64 0))
                have OU : Hid (OwnsCls (((w2.setCell ⟨wr.heap.size, 0, none⟩ (.bool true)).setCell ⟨wr.heap.size, 1, none⟩ (.int .u32 0)).setCell ⟨wr.heap.size, 2, none⟩ (.int .i64 0)) W.heap.size (.slice Av pre.length cv) pre) := Lib.hid (ow_move OQ.out fun j h1 h2 h3 => by
                  have hj := (R.out.owns.lt j h3).2
                  rw [Below.heap_setCell _ _ _ _ (show j ≠ wr.heap.size by omega), Below.heap_setCell _ _ _ _ (show j ≠ wr.heap.size by omega), Below.heap_setCell _ _ _ _ (show j ≠ wr.heap.size by omega)])
                have sU : W.heap.size ≤ ((((w2.setCell ⟨wr.heap.size, 0, none⟩ (.bool true)).setCell ⟨wr.heap.size, 1, none⟩ (.int .u32 0)).setCell ⟨wr.heap.size, 2, none⟩ (.int .i64 0))).heap.size := BU.out.size
                clear u0 t0
                go_upto_region 13 with fail
                clear y0 y1 y2 f0 f1 f2 z0
                generalize (((w2.setCell ⟨wr.heap.size, 0, none⟩ (.bool true)).setCell ⟨wr.heap.size, 1, none⟩ (.int .u32 0)).setCell ⟨wr.heap.size, 2, none⟩ (.int .i64 0)) = wu at *
                have u0 := U0.out
                unfold bareCells at u0
                have v0 : wu.cell? ⟨wr.heap.size, 0, none⟩ = some (.bool true) := gb_cell u0 0
                have v1 : wu.cell? ⟨wr.heap.size, 1, none⟩ = some (.int .u32 0) := gb_cell u0 1
                have v2 : wu.cell? ⟨wr.heap.size, 2, none⟩ = some (.int .i64 0) := gb_cell u0 2
                have v3 : wu.cell? ⟨wr.heap.size, 3, none⟩ = some (.int .u8 c.wi) := gb_cell u0 3
                have v4 : wu.cell? ⟨wr.heap.size, 4, none⟩ = some (.int .u8 c.out) := gb_cell u0 4
                have v5 : wu.cell? ⟨wr.heap.size, 5, none⟩ = some (.bool c.drop) := gb_cell u0 5
                have v6 : wu.cell? ⟨wr.heap.size, 6, none⟩ = some (.int .u8 c.set) := gb_cell u0 6
                have v7 : wu.cell? ⟨wr.heap.size, 7, none⟩ = some (.int .u8 c.clr) := gb_cell u0 7
                have v8 : wu.cell? ⟨wr.heap.size, 8, none⟩ = some (.int .i64 c.more) := gb_cell u0 8
                have v9 : wu.cell? ⟨wr.heap.size, 9, none⟩ = some (.int .i64 c.pref) := gb_cell u0 9
                have su := gb_lt u0
                clear u0
                obtain ⟨i0, hi0, hz0, hz1, hz2⟩ := info_parts clause_info
                have hfew := R.out.few
                have hne : some wr.heap.size ≠ (Value.slice Av pre.length cv).ownBlock := fun e => by have := (R.out.owns.lt _ e.symm).2; omega
                have HNE := Lib.hid hne
                clear hne
                go_upto_region 14 with (at_builtin; refine wpList_append_lies _ rfl _ _ _ rfl W.heap.size 35 i0 _ 10 48 Try.underlying25 hi0 hz0 hz1 hz2 rfl (by omega) _ pre.length (pre.flatMap clc) rfl (ow_alloc OU.out _) ⟨wu.heap.size, 0, none⟩ 1 1 (clc (bareCl c)) rfl rfl (World.news_of_block (cs := bareCells c) (heap_alloc_new wu _)) (by intro u hu; simp [clc] at hu; rcases hu with rfl | rfl | rfl | rfl | rfl | rfl | rfl | rfl | rfl | rfl <;> rfl) (by omega) (by unfold maxLen; omega) (by omega) (by simp; omega) _ rfl ?_; intro g cap' w7 hown7 hgrow hat hlt7)
                have t3 : w7.cell? ⟨wr.heap.size, 3, none⟩ = some (.int .u8 c.wi) := hgrow.cell ((World.cell?_alloc_lt wu _ ⟨wr.heap.size, 3, none⟩ su).trans v3) HNE.out
                have t4 : w7.cell? ⟨wr.heap.size, 4, none⟩ = some (.int .u8 c.out) := hgrow.cell ((World.cell?_alloc_lt wu _ ⟨wr.heap.size, 4, none⟩ su).trans v4) HNE.out
                have B7 := Lib.hid (ow_grown (gb_alloc BU.out _) hgrow OU.out (by simp; omega))
                have O7 : Hid (OwnsCls w7 W.heap.size (.slice (some ⟨g, 0, none⟩) (pre.length + 1) cap') (pre ++ [bareCl c])) := Lib.hid (by have := hown7; unfold OwnsCls; rw [List.length_append, List.flatMap_append, List.length_singleton]; simpa using this)
                clear v0 v1 v2 v3 v4 v5 v6 v7 v8 v9 hgrow hat hown7 hi0 hz0 hz1 hz2
                by_cases hw0 : c.wi = 0
                · have k1 : ((c.wi : Int) == 0) = true := by rw [eq0_dec]; exact decide_eq_true hw0
                  by_cases hu0 : c.out = 0
                  · have k2 : ((c.out : Int) == 0) = true := by rw [eq0_dec]; exact decide_eq_true hu0
                    have k12 := (or_zero hcok.wi hcok.out).trans (decide_eq_true ⟨hw0, hu0⟩)
                    have HS := Lib.hid (forL_stop C.out HV.out ⟨hw0, hu0⟩ R.out.done)
                    clear hw0 hu0
                    go_wp2_with fail
                    go_meet
                    exact ⟨some ⟨g, 0, none⟩, cap', by rw [HS.out, List.length_append, List.length_singleton], by rw [HS.out, List.length_append, List.length_singleton]; exact O7.out, B7.out⟩
                  · have k2 : ((c.out : Int) == 0) = false := by rw [eq0_dec]; exact decide_eq_false hu0
                    have k12 := (or_zero hcok.wi hcok.out).trans (decide_eq_false (fun q => hu0 q.2))
                    have HS := Lib.hid (forL_take C.out HV.out (fun q => hu0 q.2) R.out.done)
                    clear hw0 hu0
                    go_wp2_with fail
                    go_roundw
                    case rel => exact ⟨k + 1, pre ++ [bareCl c], by go_num, by omega, HS.out, by simp; omega, B7.out, O7.out⟩
                    case measure => simp [intOf] <;> omega
                · have k1 : ((c.wi : Int) == 0) = false := by rw [eq0_dec]; exact decide_eq_false hw0
                  have k12 := (or_zero hcok.wi hcok.out).trans (decide_eq_false (fun q => hw0 q.1))
                  have HS := Lib.hid (forL_take C.out HV.out (fun q => hw0 q.1) R.out.done)
                  clear hw0
                  go_wp2_with fail
                  go_roundw
                  case rel => exact ⟨k + 1, pre ++ [bareCl c], by go_num, by omega, HS.out, by simp; omega, B7.out, O7.out⟩
                  case measure => simp [intOf] <;> omega
          · have hk' : k = cs.length := by omega
            subst hk'
            have HF : Hid (forL cs o = pre) := Lib.hid (by have := R.out.done; simpa [forL] using this)
            clear hk
            go_wp2_with fail
            go_meet
            exact ⟨Av, cv, by rw [HF.out], by rw [HF.out]; exact R.out.owns, R.out.below⟩
      case rest =>
        obtain ⟨Aw, cw, rfl, how, hbw⟩ := hcut
        have OW := Lib.hid how
        have BC := Lib.hid hbw
        have D0 := Lib.hid (gb_blk hbw B0.out (gb_lt B0.out))
        clear how hbw z0 z1 z2 q2
        have z0 := gb_cell D0.out 0
        have z1 := gb_cell D0.out 1
        have z2 := gb_cell D0.out 2
        simp only [List.getElem?_toArray] at z0 z1 z2
        go_wp2_with fail
        refine (for_any A cap cs hcs o ho wc ((S.out.below BC.out).more BC.out.size) hn).mono ?_
        rintro e w5 ⟨Ag, cg, rfl, hown, hb5⟩
        have OG := Lib.hid hown
        have OW5 := Lib.hid (ow_below OW.out hb5)
        have B5 := Lib.hid (gb_trans BC.out hb5)
        have HFO := Lib.hid (forL_ok o hcs)
        have HFL : Hid ((forL cs o).length * 48 ≤ 140737488351232) := Lib.hid (by have := forL_len cs o; omega)
        have HFF := Lib.hid (forL_for cs o noPfx)
        clear hown hb5 z0 z1 z2
        generalize forL cs o = ws at *
        go_wp2_with fail
        have c2 := for_any Ag cg ws HFO.out noPfx noPfx_ok w5 (OwnsCls.at_ OG.out) HFL.out
        rw [HFF.out] at c2
        refine c2.mono ?_
        clear c2
        rintro e w6 ⟨Ah, ch, rfl, hown, hb6⟩
        have SH : Hid (ClsAt w6 w6.heap.size Ah ws) := Lib.hid (OwnsCls.at_ hown)
        have SG : Hid (ClsAt w6 w6.heap.size Ag ws) := Lib.hid (OwnsCls.at_ (ow_below OG.out hb6 : OwnsCls _ _ _ _))
        have SW : Hid (ClsAt w6 w6.heap.size Aw ws) := Lib.hid (OwnsCls.at_ (ow_below OW5.out hb6 : OwnsCls _ _ _ _))
        have B6 := Lib.hid (gb_trans BW.out (gb_trans B5.out hb6))
        have hws := HFL.out
        clear hown hb6 OW OG OW5 S X2 HP HL D0
        go_wp2_with fail
        go_loopw [17, 89] (fun _ i wr => ∃ k : Nat, i = .int .i64 k ∧ k ≤ ws.length ∧ Below w6.heap.size w6 wr) (fun _ i _ => ws.length - (intOf i).toNat)
        case atStart => exact ⟨0, rfl, by omega, Below.refl _ _⟩
        case round =>
          obtain ⟨k, rfl, hk, hb⟩ := hrel
          have B := Lib.hid hb
          by_cases hlt : k < ws.length
          · obtain ⟨c, hc⟩ : ∃ c, ws[k]? = some c := ⟨_, List.getElem?_eq_getElem hlt⟩
            obtain ⟨b1, off1, rfl, hb1, e0, e1, e2, e3, e4, e5, e6, e7, e8, e9⟩ := ClsAt.get (SG.out.below hb) hc
            obtain ⟨b2, off2, rfl, hb2, f0, f1, f2, f3, f4, f5, f6, f7, f8, f9⟩ := ClsAt.get (SW.out.below hb) hc
            obtain ⟨b3, off3, rfl, hb3, g0, g1, g2, g3, g4, g5, g6, g7, g8, g9⟩ := ClsAt.get (SH.out.below hb) hc
            clear hb hc
            have hi : (k : Int) < (ws.length : Int) := by omega
            go_upto_region 23 with fail
            go_big_quiet (fail)
            go_wp2_with fail
            go_roundw
            case rel => exact ⟨k + 1, by go_num, by omega, ⟨B.out.os, B.out.tape, B.out.output, B.out.size, B.out.block⟩⟩
            case measure => simp [intOf] <;> omega
          · have hk' : k = ws.length := by omega
            subst hk'
            go_wp2_with fail
            go_roundw
            case rel => exact ⟨ko + 1, by go_num, by omega, gb_trans B6.out B.out⟩
            case measure => simp [intOf] <;> omega
    · have hk' : ko = 2 := by omega
      subst hk'
      go_wp2_with fail
      go_ret
      exact ⟨rfl, gb_trans BL.out Bo.out⟩
theorem walk_ClauseFew (s : SlV Rul) (n : Nat) (r : SlV Cl) (o : Pfx) (w : World) (hs : SlOk rulc 6 (fun _ r => r.Ok) w s) (h0 : s.l.length * Try.prog.bytesOf 37 ≤ reachBytes) (hn : n < 256) (hr : SlOk clc 10 (fun _ c => c.Ok) w r) (h2 : r.l.length * Try.prog.bytesOf 35 ≤ reachBytes) (ho : o.Ok) :
    Calls Try.prog 9 #[.slice s.A s.l.length s.cap, .int .u8 n, .slice r.A r.l.length r.cap, .agg (pfxc o).toArray] w fun e w' => e = .returned (.bool true) ∧ Below w.heap.size w w' :=
  walk_ClauseFew0 s n r o w hs hn hr ho (by have e : Try.prog.bytesOf 35 = 48 := by kernel_rfl
                                            rw [e] at h2; unfold reachBytes at h2; omega)
end Go.Proofs.Ytbbgiockmblamaa
