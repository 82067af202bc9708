import Derived.Test.YtbbgiockmblamaaEq
import Derived.Test.YtbbgiockmblamaaRdt
import Derived.Test.YtbbgiockmblamaaAp
set_option linter.unusedVariables false
namespace Go.Proofs.Ytbbgiockmblamaa
open Go.RowKit Mq

/-- The clauses that don't work on a route. -/
def noneL (cs : List Cl) (o : Pfx) (t : Nat) : List Cl := cs.filter fun c => !matchB c o t
theorem noneL_go (cs : List Cl) (o : Pfx) (a : Att) (extra : List Cl) : goL (noneL cs o a.tags ++ extra) o a = goL extra o a := by
  induction cs with
  | nil => rfl
  | cons c l ih =>
    unfold noneL at *
    rw [List.filter_cons]
    by_cases h : matchB c o a.tags = true
    · simp only [h, Bool.not_true]; exact ih
    · have h' : matchB c o a.tags = false := by simpa using h
      simp only [h', Bool.not_false, if_true, List.cons_append, goL]
      exact ih
theorem noneL_take {cs : List Cl} {o : Pfx} {t k : Nat} {c : Cl} (hk : cs[k]? = some c) : noneL (cs.take (k + 1)) o t = noneL (cs.take k) o t ++ if matchB c o t then [] else [c] := by
  unfold noneL
  rw [List.take_add_one, hk]
  simp only [Option.toList_some, List.filter_append]
  congr 1
  cases h : matchB c o t <;> simp [h]
theorem noneL_len (cs : List Cl) (o : Pfx) (t : Nat) : (noneL cs o t).length ≤ cs.length := List.length_filter_le _ _
theorem noneL_ok {cs : List Cl} (h : ∀ c ∈ cs, c.Ok) (o : Pfx) (t : Nat) : ∀ c ∈ noneL cs o t, c.Ok := fun c hc => h c (List.mem_filter.1 hc).1
def dropCl : Cl := ⟨true, noPfx, 0, 0, true, 0, 0, 0, 0⟩
theorem dropCl_ok : dropCl.Ok := ⟨noPfx_ok, by decide, by decide, by decide, by decide, ⟨by decide, by decide⟩, ⟨by decide, by decide⟩⟩
theorem do_none (cs : List Cl) (o : Pfx) (a : Att) : doL (noneL cs o a.tags) o a = if a.ok then a else noAtt := by
  unfold doL
  have := noneL_go cs o a []
  rw [List.append_nil] at this
  rw [this]; rfl
theorem do_drop (cs : List Cl) (o : Pfx) (a : Att) : doL (noneL cs o a.tags ++ [dropCl]) o a = noAtt := by
  unfold doL
  rw [noneL_go]
  split
  · have hm : matchB dropCl o a.tags = true := by simp [matchB, forB, tagsB, dropCl]
    simp only [goL, hm, if_true]; rfl
  · rfl
theorem do_nil (o : Pfx) (a : Att) : doL [] o a = if a.ok then a else noAtt := rfl

attribute [local go_sem high] eq_att
set_option maxRecDepth 100000 in
set_option maxHeartbeats 4000000 in
theorem walk_ClauseNone (a : Att) (s : SlV Rul) (n : Nat) (w : World) (ha : a.Ok) (hs : SlOk rulc 6 (fun _ r => r.Ok) w s) (hn : n < 256) :
    Calls Try.prog 6 #[.agg (attc a).toArray, .slice s.A s.l.length s.cap, .int .u8 n] w fun e w' => e = .returned (.bool true) ∧ Below w.heap.size w w' := by
  have S := Lib.hid hs
  clear hs
  unfold attc
  go_enter Try.func6, Try.ntmps6
  go_wp2_with fail
  have b3 := gb_new w (.cells #[.bool a.ok, .int .i64 a.pref, .int .i64 a.cost, .int .u8 a.tags] 24)
  have hB := gb_alloc (Below.refl w.heap.size w) (.cells #[.bool a.ok, .int .i64 a.pref, .int .i64 a.cost, .int .u8 a.tags] 24)
  generalize w.alloc (.cells #[.bool a.ok, .int .i64 a.pref, .int .i64 a.cost, .int .u8 a.tags] 24) = W0 at *
  refine (awake11 W0).mono ?_
  rintro e w1 ⟨rfl, hb⟩
  have C3 := Lib.hid (gb_blk hb b3 (gb_lt b3))
  have B1 := Lib.hid (gb_trans hB hb)
  clear b3 hB hb
  go_wp2_with fail
  refine (make_any n hn w1).mono ?_
  rintro e w2 ⟨rfl, hb⟩
  have HPO := Lib.hid (mkP_ok hn)
  generalize mkP n = o at *
  unfold pfxv
  have C31 := Lib.hid (gb_old _ (.cells #[.int .u32 o.addr, .int .i64 o.bits] 28) (gb_blk hb C3.out (gb_lt C3.out)))
  have C7 := Lib.hid (gb_new w2 (.cells #[.int .u32 o.addr, .int .i64 o.bits] 28))
  have B2 := Lib.hid (gb_alloc (gb_trans B1.out hb) (.cells #[.int .u32 o.addr, .int .i64 o.bits] 28))
  clear C3 hb
  go_upto_region 4 with fail
  generalize w2.alloc (.cells #[.int .u32 o.addr, .int .i64 o.bits] 28) = w3 at *
  obtain ⟨x0, x1, x2, x3⟩ := gb_cells4 C31.out
  have s3 := gb_lt C31.out
  cases hok : a.ok with
  | true =>
    rw [hok] at C31 x0
    go_upto_region 7 with fail
    have C8 := Lib.hid (gb_new w3 (.cells #[.bool true, .int .i64 a.pref, .int .i64 a.cost, .int .u8 a.tags] 24))
    have C32 := Lib.hid (gb_old _ (.cells #[.bool true, .int .i64 a.pref, .int .i64 a.cost, .int .u8 a.tags] 24) C31.out)
    have C71 := Lib.hid (gb_old _ (.cells #[.bool true, .int .i64 a.pref, .int .i64 a.cost, .int .u8 a.tags] 24) C7.out)
    have B4 := Lib.hid (gb_alloc B2.out (.cells #[.bool true, .int .i64 a.pref, .int .i64 a.cost, .int .u8 a.tags] 24))
    clear x0 x1 x2 x3 s3
    generalize w3.alloc (.cells #[.bool true, .int .i64 a.pref, .int .i64 a.cost, .int .u8 a.tags] 24) = w4 at *
    have HD0 : Hid (attv (doL [] o a) = .agg #[.bool true, .int .i64 a.pref, .int .i64 a.cost, .int .u8 a.tags]) := Lib.hid (by rw [do_nil, hok]; simp only [if_true]; unfold attv; rw [hok])
    have HD1 : Hid (attv (doL (noneL (ruleCls s.l) o a.tags) o a) = .agg #[.bool true, .int .i64 a.pref, .int .i64 a.cost, .int .u8 a.tags]) := Lib.hid (by rw [do_none, hok]; simp only [if_true]; unfold attv; rw [hok])
    have HAV : Hid (attv a = .agg #[.bool true, .int .i64 a.pref, .int .i64 a.cost, .int .u8 a.tags]) := Lib.hid (by unfold attv; rw [hok])
    clear hok
    go_wp2_with fail
    refine (clauses_any s.A s.cap s.l S.out.ok w4 ((S.out.at_.below B4.out).more B4.out.size) S.out.len_le).mono ?_
    rintro e w5 ⟨Ac, cc, rfl, hown, hb⟩
    have C33 := Lib.hid (gb_blk hb C32.out (gb_lt C32.out))
    have C72 := Lib.hid (gb_blk hb C71.out (gb_lt C71.out))
    have C81 := Lib.hid (gb_blk hb C8.out (gb_lt C8.out))
    have B5 := Lib.hid (gb_trans B4.out hb)
    have SC := Lib.hid hown.at_
    have HL := ruleCls_len s.l
    have HCO := Lib.hid (ruleCls_ok S.out.ok)
    clear hown hb C31 C7 C8 C32 C71
    generalize ruleCls s.l = cs at *
    go_wp2_with fail
    go_loopw [9, 25] (fun v i wr => ∃ (k : Nat) (pre : List Cl), i = .int .i64 k ∧ k ≤ cs.length ∧ Hid (pre = noneL (cs.take k) o a.tags) ∧ pre.length ≤ k ∧ OwnsCls wr w5.heap.size v pre ∧ Below w5.heap.size w5 wr) (fun _ i _ => cs.length - (intOf i).toNat)
    case atStart => exact ⟨0, [], rfl, by omega, Lib.hid rfl, by simp, World.ownsRow_nil _ _ _ _, Below.refl _ _⟩
    case round =>
      obtain ⟨k, pre, rfl, hk, HP, hpl, ho, hb⟩ := hrel
      obtain ⟨Av, cv, rfl⟩ := ho.form
      have O := Lib.hid ho
      have B := Lib.hid hb
      have C34 := Lib.hid (gb_blk hb C33.out (gb_lt C33.out))
      have C73 := Lib.hid (gb_blk hb C72.out (gb_lt C72.out))
      have C82 := Lib.hid (gb_blk hb C81.out (gb_lt C81.out))
      clear ho
      by_cases hlt : k < cs.length
      · obtain ⟨x, hx⟩ : ∃ x, cs[k]? = some x := ⟨_, List.getElem?_eq_getElem hlt⟩
        have hxok := HCO.out x (List.mem_of_getElem? hx)
        obtain ⟨b, off, rfl, hbb, e0, e1, e2, e3, e4, e5, e6, e7, e8, e9⟩ := ClsAt.get (SC.out.below hb) hx
        have X := Lib.hid hx
        clear hx hb hbb
        go_upto_region 11 with fail
        have t0 := gb_new wr (.cells #[.bool x.any, .int .u32 x.px.addr, .int .i64 x.px.bits, .int .u8 x.wi, .int .u8 x.out, .bool x.drop, .int .u8 x.set, .int .u8 x.clr, .int .i64 x.more, .int .i64 x.pref] 35)
        have BU := Lib.hid (gb_trans B.out (gb_alloc (Below.refl wr.heap.size wr) (.cells #[.bool x.any, .int .u32 x.px.addr, .int .i64 x.px.bits, .int .u8 x.wi, .int .u8 x.out, .bool x.drop, .int .u8 x.set, .int .u8 x.clr, .int .i64 x.more, .int .i64 x.pref] 35)))
        have OU := Lib.hid (ow_alloc O.out (.cells #[.bool x.any, .int .u32 x.px.addr, .int .i64 x.px.bits, .int .u8 x.wi, .int .u8 x.out, .bool x.drop, .int .u8 x.set, .int .u8 x.clr, .int .i64 x.more, .int .i64 x.pref] 35))
        have t3 := gb_old _ (.cells #[.bool x.any, .int .u32 x.px.addr, .int .i64 x.px.bits, .int .u8 x.wi, .int .u8 x.out, .bool x.drop, .int .u8 x.set, .int .u8 x.clr, .int .i64 x.more, .int .i64 x.pref] 35) C34.out
        have t7 := gb_old _ (.cells #[.bool x.any, .int .u32 x.px.addr, .int .i64 x.px.bits, .int .u8 x.wi, .int .u8 x.out, .bool x.drop, .int .u8 x.set, .int .u8 x.clr, .int .i64 x.more, .int .i64 x.pref] 35) C73.out
        clear e0 e1 e2 e3 e4 e5 e6 e7 e8 e9
        have T0 := Lib.hid t0
        have hnb : wr.heap.size < (wr.alloc (.cells #[.bool x.any, .int .u32 x.px.addr, .int .i64 x.px.bits, .int .u8 x.wi, .int .u8 x.out, .bool x.drop, .int .u8 x.set, .int .u8 x.clr, .int .i64 x.more, .int .i64 x.pref] 35)).heap.size := by simp
        have hne : some wr.heap.size ≠ (Value.slice Av pre.length cv).ownBlock := fun e => by have := (O.out.lt _ e.symm).2; omega
        have HNE := Lib.hid hne
        generalize wr.alloc (.cells #[.bool x.any, .int .u32 x.px.addr, .int .i64 x.px.bits, .int .u8 x.wi, .int .u8 x.out, .bool x.drop, .int .u8 x.set, .int .u8 x.clr, .int .i64 x.more, .int .i64 x.pref] 35) = wu at *
        obtain ⟨y0, y1, y2, y3⟩ := gb_cells4 t3
        obtain ⟨z0, z1⟩ := gb_cells2 t7
        obtain ⟨x0, x1, x2, x3, x4, x5, x6, x7, x8, x9⟩ := in_cells10 t0
        clear t0 t3 t7 hne
        have cm := matches_any x hxok o HPO.out a.tags ha.tags
        unfold clv pfxv at cm
        have CM := Lib.hid cm
        clear cm
        go_wp2_with fail
        refine (CM.out _).mono ?_
        rintro e w6 ⟨rfl, hb6⟩
        have T1 := Lib.hid (gb_blk hb6 T0.out (gb_lt T0.out))
        have BV := Lib.hid (gb_trans BU.out hb6)
        have OV := Lib.hid (ow_below OU.out hb6)
        clear x0 x1 x2 x3 x4 x5 x6 x7 x8 x9 y0 y1 y2 y3 z0 z1 hb6
        have HNX := Lib.hid (noneL_take (o := o) (t := a.tags) X.out)
        cases hm : matchB x o a.tags with
        | true =>
          have HP' : Hid (pre = noneL (cs.take (k + 1)) o a.tags) := Lib.hid (by rw [HNX.out, hm, ← HP.out]; simp)
          clear hm
          go_wp2_with fail
          go_roundw
          case rel => exact ⟨k + 1, pre, by go_num, by omega, HP', by omega, OV.out, BV.out⟩
          case measure => simp [intOf] <;> omega
        | false =>
          have HP' : Hid (pre ++ [x] = noneL (cs.take (k + 1)) o a.tags) := Lib.hid (by rw [HNX.out, hm, ← HP.out]; simp)
          clear hm
          obtain ⟨x0, x1, x2, x3, x4, x5, x6, x7, x8, x9⟩ := in_cells10 T1.out
          obtain ⟨i0, hi0, hz0, hz1, hz2⟩ := info_parts clause_info
          have hsz := BV.out.size
          go_wp2_with (at_builtin; refine wpList_append_lies _ rfl _ _ _ rfl w5.heap.size 35 i0 _ 10 48 Try.underlying25 hi0 hz0 hz1 hz2 rfl (by omega) _ pre.length (pre.flatMap clc) rfl (ow_alloc OV.out _) ⟨w6.heap.size, 0, none⟩ 1 1 (clc x) rfl rfl (World.news_of_block (cs := (clc x).toArray) (heap_alloc_new w6 _)) (by intro u hu; simp [clc] at hu; rcases hu with rfl | rfl | rfl | rfl | rfl | rfl | rfl | rfl | rfl | rfl <;> rfl) (by omega) (by unfold maxLen; omega) (by omega) (by simp; omega) _ rfl ?_; intro g cap' w7 hown7 hgrow hat hlt7)
          have B7 := Lib.hid (ow_grown (gb_alloc BV.out _) hgrow OV.out (by simp; omega))
          have O7 : Hid (OwnsCls w7 w5.heap.size (.slice (some ⟨g, 0, none⟩) (pre.length + 1) cap') (pre ++ [x])) := Lib.hid (by have := hown7; unfold OwnsCls; rw [List.length_append, List.flatMap_append, List.length_singleton]; simpa using this)
          clear hgrow hat hown7 hi0 hz0 hz1 hz2 x0 x1 x2 x3 x4 x5 x6 x7 x8 x9
          go_roundw
          case rel => exact ⟨k + 1, pre ++ [x], by go_num, by omega, HP', by simp; omega, B7.out |> fun _ => O7.out, B7.out⟩
          case measure => simp [intOf] <;> omega
      · have hk' : k = cs.length := by omega
        subst hk'
        have HPE : Hid (pre = noneL cs o a.tags) := Lib.hid (by rw [HP.out, List.take_length])
        have HD1' : Hid (attv (doL pre o a) = .agg #[.bool true, .int .i64 a.pref, .int .i64 a.cost, .int .u8 a.tags]) := Lib.hid (by rw [HPE.out]; exact HD1.out)
        have HD2 : Hid (attv (doL (pre ++ [dropCl]) o a) = .agg #[.bool false, .int .i64 0, .int .i64 0, .int .u8 0]) := Lib.hid (by rw [HPE.out, do_drop]; rfl)
        have HPO1 : Hid (∀ c ∈ pre, c.Ok) := Lib.hid (by rw [HPE.out]; exact noneL_ok HCO.out o a.tags)
        clear hb
        obtain ⟨i0, hi0, hz0, hz1, hz2⟩ := info_parts clause_info
        have hsz := B.out.size
        go_upto_region 15 with (first
          | (at_builtin; refine wpList_append_row rfl (.const (.slice none 0 0)) _ _ rfl wr.heap.size 35 i0 _ 10 48 Try.underlying25 hi0 hz0 hz1 hz2 rfl (by omega) (.slice none 0 0) 0 [] rfl (World.ownsRow_nil _ _ _ _) Av pre.length cv (pre.flatMap clc) rfl w5.heap.size O.out (by intro u hu; obtain ⟨q, -, hq⟩ := List.mem_flatMap.1 hu; simp [clc] at hq; rcases hq with rfl | rfl | rfl | rfl | rfl | rfl | rfl | rfl | rfl | rfl <;> rfl) (by unfold maxLen; omega) (by omega) (by omega) ?_; intro v8 w8 hown8 hgrow8; simp only [Nat.zero_add, List.nil_append] at hown8; have O8 := Lib.hid hown8; have B8 := Lib.hid (show Below wr.heap.size wr w8 from ⟨hgrow8.os, hgrow8.tape, hgrow8.output, hgrow8.size, fun k hk => hgrow8.block k hk (by simp [Value.ownBlock])⟩); have hz8 := hgrow8.size; clear hown8 hgrow8)
          | (at_builtin; refine wpList_append_lies _ rfl _ _ _ rfl wr.heap.size 35 i0 _ 10 48 Try.underlying25 hi0 hz0 hz1 hz2 rfl (by omega) _ pre.length (pre.flatMap clc) rfl (ow_alloc O8.out _) ⟨w8.heap.size, 0, none⟩ 1 1 (clc dropCl) rfl rfl (World.news_of_block (cs := (clc dropCl).toArray) (heap_alloc_new w8 _)) (by intro u hu; simp [clc] at hu; rcases hu with rfl | rfl | rfl | rfl | rfl | rfl | rfl | rfl | rfl | rfl <;> rfl) (by omega) (by unfold maxLen; omega) (by omega) (by simp; omega) _ rfl ?_; intro g cap' w9 hown9 hgrow hat hlt9))
        have B9 := Lib.hid (ow_grown (gb_alloc B8.out _) hgrow O8.out (by simp; omega))
        have O9 : Hid (OwnsCls w9 wr.heap.size (.slice (some ⟨g, 0, none⟩) (pre.length + 1) cap') (pre ++ [dropCl])) := Lib.hid (by have := hown9; unfold OwnsCls; rw [List.length_append, List.flatMap_append, List.length_singleton]; simpa using this)
        clear hgrow hat hown9 hi0 hz0 hz1 hz2
        have D34 := Lib.hid (gb_blk B9.out C34.out (gb_lt C34.out))
        have D73 := Lib.hid (gb_blk B9.out C73.out (gb_lt C73.out))
        have D82 := Lib.hid (gb_blk B9.out C82.out (gb_lt C82.out))
        obtain ⟨p0, p1⟩ := in_cells2 D73.out
        obtain ⟨q0, q1, q2, q3⟩ := in_cells4 D34.out
        obtain ⟨r0, r1, r2, r3⟩ := in_cells4 D82.out
        have k1 : ∀ x : InW (Below w9.heap.size w9), Calls Try.prog 18 #[.slice none 0 0, .agg #[.int .u32 o.addr, .int .i64 o.bits], .agg #[.bool true, .int .i64 a.pref, .int .i64 a.cost, .int .u8 a.tags]] x.val fun e w' => e = .returned (.agg #[.bool true, .int .i64 a.pref, .int .i64 a.cost, .int .u8 a.tags]) ∧ ∃ y : InW (Below w9.heap.size w9), w' = y.val :=
          calls_in fun w' hb => by have := do_any none 0 [] (by intro c hc; simp at hc) o HPO.out a ha w' (fun h => absurd h (by simp)) (by simp); unfold DoPost pfxv at this; rw [HD0.out, HAV.out] at this; exact this
        have K1 := Lib.hid k1; clear k1
        have k2 : ∀ x : InW (Below w9.heap.size w9), Calls Try.prog 18 #[.slice Av pre.length cv, .agg #[.int .u32 o.addr, .int .i64 o.bits], .agg #[.bool true, .int .i64 a.pref, .int .i64 a.cost, .int .u8 a.tags]] x.val fun e w' => e = .returned (.agg #[.bool true, .int .i64 a.pref, .int .i64 a.cost, .int .u8 a.tags]) ∧ ∃ y : InW (Below w9.heap.size w9), w' = y.val :=
          calls_in fun w' hb => by have := do_any Av cv pre HPO1.out o HPO.out a ha w' ((O.out.at_.below (gb_trans B9.out hb)).more (gb_trans B9.out hb).size) (by omega); unfold DoPost pfxv at this; rw [HD1'.out, HAV.out] at this; exact this
        have K2 := Lib.hid k2; clear k2
        have k3 : ∀ x : InW (Below w9.heap.size w9), Calls Try.prog 18 #[.slice (some ⟨g, 0, none⟩) (pre.length + 1) cap', .agg #[.int .u32 o.addr, .int .i64 o.bits], .agg #[.bool true, .int .i64 a.pref, .int .i64 a.cost, .int .u8 a.tags]] x.val fun e w' => e = .returned (.agg #[.bool false, .int .i64 0, .int .i64 0, .int .u8 0]) ∧ ∃ y : InW (Below w9.heap.size w9), w' = y.val :=
          calls_in fun w' hb => by have hat := O9.out.at_; have := do_any (some ⟨g, 0, none⟩) cap' (pre ++ [dropCl]) (fun c hc => by rcases List.mem_append.1 hc with h | h; exact HPO1.out c h; rw [List.mem_singleton.1 h]; exact dropCl_ok) o HPO.out a ha w' ((hat.below hb).more hb.size) (by simp; omega); unfold DoPost pfxv at this; rw [List.length_append, List.length_singleton, HD2.out, HAV.out] at this; exact this
        have K3 := Lib.hid k3; clear k3
        refine wp_region_in (Below w9.heap.size w9) (by kernel_rfl) (by kernel_rfl) (Below.refl _ _).drew ?_
        repeat (go_big_quiet_step (first | (with_reducible exact K1.out _) | (with_reducible exact K2.out _) | (with_reducible exact K3.out _)))
        refine wpQuiet_nil ?_
        rintro _ ⟨⟨wf, hb⟩, rfl⟩
        have BF := Lib.hid (gb_trans (gb_trans B5.out (gb_trans B.out B9.out)) hb)
        clear hb p0 p1 q0 q1 q2 q3 r0 r1 r2 r3
        go_wp2_with fail
        go_ret
        exact ⟨rt_bool (by simp), BF.out⟩
  | false =>
    rw [hok] at C31 x0
    go_upto_region 7 with fail
    have C8 := Lib.hid (gb_new w3 (.cells #[.bool false, .int .i64 0, .int .i64 0, .int .u8 0] 24))
    have C32 := Lib.hid (gb_old _ (.cells #[.bool false, .int .i64 0, .int .i64 0, .int .u8 0] 24) C31.out)
    have C71 := Lib.hid (gb_old _ (.cells #[.bool false, .int .i64 0, .int .i64 0, .int .u8 0] 24) C7.out)
    have B4 := Lib.hid (gb_alloc B2.out (.cells #[.bool false, .int .i64 0, .int .i64 0, .int .u8 0] 24))
    clear x0 x1 x2 x3 s3
    generalize w3.alloc (.cells #[.bool false, .int .i64 0, .int .i64 0, .int .u8 0] 24) = w4 at *
    have HD0 : Hid (attv (doL [] o a) = .agg #[.bool false, .int .i64 0, .int .i64 0, .int .u8 0]) := Lib.hid (by rw [do_nil, hok]; rfl)
    have HD1 : Hid (attv (doL (noneL (ruleCls s.l) o a.tags) o a) = .agg #[.bool false, .int .i64 0, .int .i64 0, .int .u8 0]) := Lib.hid (by rw [do_none, hok]; rfl)
    have HAV : Hid (attv a = .agg #[.bool false, .int .i64 a.pref, .int .i64 a.cost, .int .u8 a.tags]) := Lib.hid (by unfold attv; rw [hok])
    clear hok
    go_wp2_with fail
    refine (clauses_any s.A s.cap s.l S.out.ok w4 ((S.out.at_.below B4.out).more B4.out.size) S.out.len_le).mono ?_
    rintro e w5 ⟨Ac, cc, rfl, hown, hb⟩
    have C33 := Lib.hid (gb_blk hb C32.out (gb_lt C32.out))
    have C72 := Lib.hid (gb_blk hb C71.out (gb_lt C71.out))
    have C81 := Lib.hid (gb_blk hb C8.out (gb_lt C8.out))
    have B5 := Lib.hid (gb_trans B4.out hb)
    have SC := Lib.hid hown.at_
    have HL := ruleCls_len s.l
    have HCO := Lib.hid (ruleCls_ok S.out.ok)
    clear hown hb C31 C7 C8 C32 C71
    generalize ruleCls s.l = cs at *
    go_wp2_with fail
    go_loopw [9, 25] (fun v i wr => ∃ (k : Nat) (pre : List Cl), i = .int .i64 k ∧ k ≤ cs.length ∧ Hid (pre = noneL (cs.take k) o a.tags) ∧ pre.length ≤ k ∧ OwnsCls wr w5.heap.size v pre ∧ Below w5.heap.size w5 wr) (fun _ i _ => cs.length - (intOf i).toNat)
    case atStart => exact ⟨0, [], rfl, by omega, Lib.hid rfl, by simp, World.ownsRow_nil _ _ _ _, Below.refl _ _⟩
    case round =>
      obtain ⟨k, pre, rfl, hk, HP, hpl, ho, hb⟩ := hrel
      obtain ⟨Av, cv, rfl⟩ := ho.form
      have O := Lib.hid ho
      have B := Lib.hid hb
      have C34 := Lib.hid (gb_blk hb C33.out (gb_lt C33.out))
      have C73 := Lib.hid (gb_blk hb C72.out (gb_lt C72.out))
      have C82 := Lib.hid (gb_blk hb C81.out (gb_lt C81.out))
      clear ho
      by_cases hlt : k < cs.length
      · obtain ⟨x, hx⟩ : ∃ x, cs[k]? = some x := ⟨_, List.getElem?_eq_getElem hlt⟩
        have hxok := HCO.out x (List.mem_of_getElem? hx)
        obtain ⟨b, off, rfl, hbb, e0, e1, e2, e3, e4, e5, e6, e7, e8, e9⟩ := ClsAt.get (SC.out.below hb) hx
        have X := Lib.hid hx
        clear hx hb hbb
        go_upto_region 11 with fail
        have t0 := gb_new wr (.cells #[.bool x.any, .int .u32 x.px.addr, .int .i64 x.px.bits, .int .u8 x.wi, .int .u8 x.out, .bool x.drop, .int .u8 x.set, .int .u8 x.clr, .int .i64 x.more, .int .i64 x.pref] 35)
        have BU := Lib.hid (gb_trans B.out (gb_alloc (Below.refl wr.heap.size wr) (.cells #[.bool x.any, .int .u32 x.px.addr, .int .i64 x.px.bits, .int .u8 x.wi, .int .u8 x.out, .bool x.drop, .int .u8 x.set, .int .u8 x.clr, .int .i64 x.more, .int .i64 x.pref] 35)))
        have OU := Lib.hid (ow_alloc O.out (.cells #[.bool x.any, .int .u32 x.px.addr, .int .i64 x.px.bits, .int .u8 x.wi, .int .u8 x.out, .bool x.drop, .int .u8 x.set, .int .u8 x.clr, .int .i64 x.more, .int .i64 x.pref] 35))
        have t3 := gb_old _ (.cells #[.bool x.any, .int .u32 x.px.addr, .int .i64 x.px.bits, .int .u8 x.wi, .int .u8 x.out, .bool x.drop, .int .u8 x.set, .int .u8 x.clr, .int .i64 x.more, .int .i64 x.pref] 35) C34.out
        have t7 := gb_old _ (.cells #[.bool x.any, .int .u32 x.px.addr, .int .i64 x.px.bits, .int .u8 x.wi, .int .u8 x.out, .bool x.drop, .int .u8 x.set, .int .u8 x.clr, .int .i64 x.more, .int .i64 x.pref] 35) C73.out
        clear e0 e1 e2 e3 e4 e5 e6 e7 e8 e9
        have T0 := Lib.hid t0
        have hnb : wr.heap.size < (wr.alloc (.cells #[.bool x.any, .int .u32 x.px.addr, .int .i64 x.px.bits, .int .u8 x.wi, .int .u8 x.out, .bool x.drop, .int .u8 x.set, .int .u8 x.clr, .int .i64 x.more, .int .i64 x.pref] 35)).heap.size := by simp
        have hne : some wr.heap.size ≠ (Value.slice Av pre.length cv).ownBlock := fun e => by have := (O.out.lt _ e.symm).2; omega
        have HNE := Lib.hid hne
        generalize wr.alloc (.cells #[.bool x.any, .int .u32 x.px.addr, .int .i64 x.px.bits, .int .u8 x.wi, .int .u8 x.out, .bool x.drop, .int .u8 x.set, .int .u8 x.clr, .int .i64 x.more, .int .i64 x.pref] 35) = wu at *
        obtain ⟨y0, y1, y2, y3⟩ := gb_cells4 t3
        obtain ⟨z0, z1⟩ := gb_cells2 t7
        obtain ⟨x0, x1, x2, x3, x4, x5, x6, x7, x8, x9⟩ := in_cells10 t0
        clear t0 t3 t7 hne
        have cm := matches_any x hxok o HPO.out a.tags ha.tags
        unfold clv pfxv at cm
        have CM := Lib.hid cm
        clear cm
        go_wp2_with fail
        refine (CM.out _).mono ?_
        rintro e w6 ⟨rfl, hb6⟩
        have T1 := Lib.hid (gb_blk hb6 T0.out (gb_lt T0.out))
        have BV := Lib.hid (gb_trans BU.out hb6)
        have OV := Lib.hid (ow_below OU.out hb6)
        clear x0 x1 x2 x3 x4 x5 x6 x7 x8 x9 y0 y1 y2 y3 z0 z1 hb6
        have HNX := Lib.hid (noneL_take (o := o) (t := a.tags) X.out)
        cases hm : matchB x o a.tags with
        | true =>
          have HP' : Hid (pre = noneL (cs.take (k + 1)) o a.tags) := Lib.hid (by rw [HNX.out, hm, ← HP.out]; simp)
          clear hm
          go_wp2_with fail
          go_roundw
          case rel => exact ⟨k + 1, pre, by go_num, by omega, HP', by omega, OV.out, BV.out⟩
          case measure => simp [intOf] <;> omega
        | false =>
          have HP' : Hid (pre ++ [x] = noneL (cs.take (k + 1)) o a.tags) := Lib.hid (by rw [HNX.out, hm, ← HP.out]; simp)
          clear hm
          obtain ⟨x0, x1, x2, x3, x4, x5, x6, x7, x8, x9⟩ := in_cells10 T1.out
          obtain ⟨i0, hi0, hz0, hz1, hz2⟩ := info_parts clause_info
          have hsz := BV.out.size
          go_wp2_with (at_builtin; refine wpList_append_lies _ rfl _ _ _ rfl w5.heap.size 35 i0 _ 10 48 Try.underlying25 hi0 hz0 hz1 hz2 rfl (by omega) _ pre.length (pre.flatMap clc) rfl (ow_alloc OV.out _) ⟨w6.heap.size, 0, none⟩ 1 1 (clc x) rfl rfl (World.news_of_block (cs := (clc x).toArray) (heap_alloc_new w6 _)) (by intro u hu; simp [clc] at hu; rcases hu with rfl | rfl | rfl | rfl | rfl | rfl | rfl | rfl | rfl | rfl <;> rfl) (by omega) (by unfold maxLen; omega) (by omega) (by simp; omega) _ rfl ?_; intro g cap' w7 hown7 hgrow hat hlt7)
          have B7 := Lib.hid (ow_grown (gb_alloc BV.out _) hgrow OV.out (by simp; omega))
          have O7 : Hid (OwnsCls w7 w5.heap.size (.slice (some ⟨g, 0, none⟩) (pre.length + 1) cap') (pre ++ [x])) := Lib.hid (by have := hown7; unfold OwnsCls; rw [List.length_append, List.flatMap_append, List.length_singleton]; simpa using this)
          clear hgrow hat hown7 hi0 hz0 hz1 hz2 x0 x1 x2 x3 x4 x5 x6 x7 x8 x9
          go_roundw
          case rel => exact ⟨k + 1, pre ++ [x], by go_num, by omega, HP', by simp; omega, B7.out |> fun _ => O7.out, B7.out⟩
          case measure => simp [intOf] <;> omega
      · have hk' : k = cs.length := by omega
        subst hk'
        have HPE : Hid (pre = noneL cs o a.tags) := Lib.hid (by rw [HP.out, List.take_length])
        have HD1' : Hid (attv (doL pre o a) = .agg #[.bool false, .int .i64 0, .int .i64 0, .int .u8 0]) := Lib.hid (by rw [HPE.out]; exact HD1.out)
        have HD2 : Hid (attv (doL (pre ++ [dropCl]) o a) = .agg #[.bool false, .int .i64 0, .int .i64 0, .int .u8 0]) := Lib.hid (by rw [HPE.out, do_drop]; rfl)
        have HPO1 : Hid (∀ c ∈ pre, c.Ok) := Lib.hid (by rw [HPE.out]; exact noneL_ok HCO.out o a.tags)
        clear hb
        obtain ⟨i0, hi0, hz0, hz1, hz2⟩ := info_parts clause_info
        have hsz := B.out.size
        go_upto_region 15 with (first
          | (at_builtin; refine wpList_append_row rfl (.const (.slice none 0 0)) _ _ rfl wr.heap.size 35 i0 _ 10 48 Try.underlying25 hi0 hz0 hz1 hz2 rfl (by omega) (.slice none 0 0) 0 [] rfl (World.ownsRow_nil _ _ _ _) Av pre.length cv (pre.flatMap clc) rfl w5.heap.size O.out (by intro u hu; obtain ⟨q, -, hq⟩ := List.mem_flatMap.1 hu; simp [clc] at hq; rcases hq with rfl | rfl | rfl | rfl | rfl | rfl | rfl | rfl | rfl | rfl <;> rfl) (by unfold maxLen; omega) (by omega) (by omega) ?_; intro v8 w8 hown8 hgrow8; simp only [Nat.zero_add, List.nil_append] at hown8; have O8 := Lib.hid hown8; have B8 := Lib.hid (show Below wr.heap.size wr w8 from ⟨hgrow8.os, hgrow8.tape, hgrow8.output, hgrow8.size, fun k hk => hgrow8.block k hk (by simp [Value.ownBlock])⟩); have hz8 := hgrow8.size; clear hown8 hgrow8)
          | (at_builtin; refine wpList_append_lies _ rfl _ _ _ rfl wr.heap.size 35 i0 _ 10 48 Try.underlying25 hi0 hz0 hz1 hz2 rfl (by omega) _ pre.length (pre.flatMap clc) rfl (ow_alloc O8.out _) ⟨w8.heap.size, 0, none⟩ 1 1 (clc dropCl) rfl rfl (World.news_of_block (cs := (clc dropCl).toArray) (heap_alloc_new w8 _)) (by intro u hu; simp [clc] at hu; rcases hu with rfl | rfl | rfl | rfl | rfl | rfl | rfl | rfl | rfl | rfl <;> rfl) (by omega) (by unfold maxLen; omega) (by omega) (by simp; omega) _ rfl ?_; intro g cap' w9 hown9 hgrow hat hlt9))
        have B9 := Lib.hid (ow_grown (gb_alloc B8.out _) hgrow O8.out (by simp; omega))
        have O9 : Hid (OwnsCls w9 wr.heap.size (.slice (some ⟨g, 0, none⟩) (pre.length + 1) cap') (pre ++ [dropCl])) := Lib.hid (by have := hown9; unfold OwnsCls; rw [List.length_append, List.flatMap_append, List.length_singleton]; simpa using this)
        clear hgrow hat hown9 hi0 hz0 hz1 hz2
        have D34 := Lib.hid (gb_blk B9.out C34.out (gb_lt C34.out))
        have D73 := Lib.hid (gb_blk B9.out C73.out (gb_lt C73.out))
        have D82 := Lib.hid (gb_blk B9.out C82.out (gb_lt C82.out))
        obtain ⟨p0, p1⟩ := in_cells2 D73.out
        obtain ⟨q0, q1, q2, q3⟩ := in_cells4 D34.out
        obtain ⟨r0, r1, r2, r3⟩ := in_cells4 D82.out
        have k1 : ∀ x : InW (Below w9.heap.size w9), Calls Try.prog 18 #[.slice none 0 0, .agg #[.int .u32 o.addr, .int .i64 o.bits], .agg #[.bool false, .int .i64 a.pref, .int .i64 a.cost, .int .u8 a.tags]] x.val fun e w' => e = .returned (.agg #[.bool false, .int .i64 0, .int .i64 0, .int .u8 0]) ∧ ∃ y : InW (Below w9.heap.size w9), w' = y.val :=
          calls_in fun w' hb => by have := do_any none 0 [] (by intro c hc; simp at hc) o HPO.out a ha w' (fun h => absurd h (by simp)) (by simp); unfold DoPost pfxv at this; rw [HD0.out, HAV.out] at this; exact this
        have K1 := Lib.hid k1; clear k1
        have k2 : ∀ x : InW (Below w9.heap.size w9), Calls Try.prog 18 #[.slice Av pre.length cv, .agg #[.int .u32 o.addr, .int .i64 o.bits], .agg #[.bool false, .int .i64 a.pref, .int .i64 a.cost, .int .u8 a.tags]] x.val fun e w' => e = .returned (.agg #[.bool false, .int .i64 0, .int .i64 0, .int .u8 0]) ∧ ∃ y : InW (Below w9.heap.size w9), w' = y.val :=
          calls_in fun w' hb => by have := do_any Av cv pre HPO1.out o HPO.out a ha w' ((O.out.at_.below (gb_trans B9.out hb)).more (gb_trans B9.out hb).size) (by omega); unfold DoPost pfxv at this; rw [HD1'.out, HAV.out] at this; exact this
        have K2 := Lib.hid k2; clear k2
        have k3 : ∀ x : InW (Below w9.heap.size w9), Calls Try.prog 18 #[.slice (some ⟨g, 0, none⟩) (pre.length + 1) cap', .agg #[.int .u32 o.addr, .int .i64 o.bits], .agg #[.bool false, .int .i64 a.pref, .int .i64 a.cost, .int .u8 a.tags]] x.val fun e w' => e = .returned (.agg #[.bool false, .int .i64 0, .int .i64 0, .int .u8 0]) ∧ ∃ y : InW (Below w9.heap.size w9), w' = y.val :=
          calls_in fun w' hb => by have hat := O9.out.at_; have := do_any (some ⟨g, 0, none⟩) cap' (pre ++ [dropCl]) (fun c hc => by rcases List.mem_append.1 hc with h | h; exact HPO1.out c h; rw [List.mem_singleton.1 h]; exact dropCl_ok) o HPO.out a ha w' ((hat.below hb).more hb.size) (by simp; omega); unfold DoPost pfxv at this; rw [List.length_append, List.length_singleton, HD2.out, HAV.out] at this; exact this
        have K3 := Lib.hid k3; clear k3
        refine wp_region_in (Below w9.heap.size w9) (by kernel_rfl) (by kernel_rfl) (Below.refl _ _).drew ?_
        repeat (go_big_quiet_step (first | (with_reducible exact K1.out _) | (with_reducible exact K2.out _) | (with_reducible exact K3.out _)))
        refine wpQuiet_nil ?_
        rintro _ ⟨⟨wf, hb⟩, rfl⟩
        have BF := Lib.hid (gb_trans (gb_trans B5.out (gb_trans B.out B9.out)) hb)
        clear hb p0 p1 q0 q1 q2 q3 r0 r1 r2 r3
        go_wp2_with fail
        go_ret
        exact ⟨rt_bool (by simp), BF.out⟩
end Go.Proofs.Ytbbgiockmblamaa
