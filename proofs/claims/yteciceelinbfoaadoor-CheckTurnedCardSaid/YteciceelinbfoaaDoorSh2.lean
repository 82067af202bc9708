import Derived.Test.YteciceelinbfoaaDoorSh0
import Derived.Test.YteciceelinbfoaaDoorRc
import Derived.Test.YteciceelinbfoaaDoorAw9
import Derived.Test.YteciceelinbfoaaDoorRgt
set_option linter.unusedVariables false
namespace Go.Proofs.YteciceelinbfoaaDoor
open Go.RowKit Mq
attribute [local go_sem high] max2_ii min2_ii

theorem rlss_get {w : World} {B : Nat} {A : Option Addr} {es : List (SlV Rul)} (h : Sli rssc 1 w B A es) {k : Nat} {e : SlV Rul} (hk : es[k]? = some e) :
    ∃ b off, A = some ⟨b, off, none⟩ ∧ b < B ∧ w.cell? ⟨b, off + k, none⟩ = some (.slice e.A e.l.length e.cap) := by
  obtain ⟨b, off, hA, hB, hc⟩ := h (by have := (List.getElem?_eq_some_iff.1 hk).1; omega)
  exact ⟨b, off, hA, hB, by simpa [rssc, slv] using hc k e hk 0 (by omega)⟩
theorem RssOk.below {w w' : World} {s : SlV Rul} (h : RssOk w s) (hb : Below w.heap.size w w') : RssOk w' s := slok_below h hb fun _ h => h
theorem ShOk.below {w w' : World} {s : ShV} (h : ShOk w s) (hb : Below w.heap.size w w') : ShOk w' s :=
  ⟨h.n, slok_below h.links hb fun _ h => h, slok_below h.maps hb fun _ h => h.below hb, slok_below h.names hb fun _ h => h, slok_below h.nets hb fun _ h => h, slok_below h.ways hb fun _ h => h⟩
theorem sli_atE {l : List LkV} {w : World} {B : Nat} {A : Option Addr} (h : Sli lkc 5 w B A l) (hpos : 0 < l.length) : ∃ b off, A = some ⟨b, off, none⟩ ∧ b < B ∧ ∀ w', Below B w w' → ∀ k u, l[k]? = some u → w'.cell? ⟨b, off + k * 5, none⟩ = some (.string u.peer) := by
  obtain ⟨b, off, hA, hB, hc⟩ := h hpos
  exact ⟨b, off, hA, hB, fun w' hb k u hk => (hb.cell (p := ⟨b, off + k * 5, none⟩) hB).trans (hc k u hk 0 (by omega))⟩
/-- Which routers are linked. -/
def conn (s : ShV) (n k j : Nat) : Bool := (j != k) && (decide (0 < numL s.links.l (min j k * n + max j k) % 3) || j == k + 1 || k == j + 1)
def peersL (s : ShV) (n k j : Nat) : List ByteArray := ((List.range j).filter (conn s n k)).map rname
def MapsOk (s : ShV) (ls : List LkV) : Prop := ∀ x ∈ ls, (∃ a, x.imp = smapL (min s.maps.l.length 4) a) ∧ ∃ a, x.exp = smapL (min s.maps.l.length 4) a
/-- What is known of a router that a shape makes. -/
structure RtSpec (s : ShV) (n k : Nat) (u : RtV) : Prop where
  name : u.name = rname k
  nets : u.nets.l.length ≤ 1
  peers : u.links.l.map (·.peer) = peersL s n k n
  maps : MapsOk s u.links.l
  stats : u.stats.l = [] ∨ ∃ x, u.stats.l = [x] ∧ ∃ y ∈ u.links.l, x.via = y.peer
structure CfSpec (s : ShV) (c : CfV) : Prop where
  maps : c.maps.l.map (·.name) = (List.range (min s.maps.l.length 4)).map mname
  len : c.rts.l.length = s.n % 8
  rts : ∀ k u, c.rts.l[k]? = some u → RtSpec s (s.n % 8) k u
/-- What Shape.Config hands back. -/
def ShPost (s : ShV) (w : World) (e : Ending) (w' : World) : Prop := ∃ c : CfV, e = .returned (.agg #[.slice c.maps.A c.maps.l.length c.maps.cap, .slice c.rts.A c.rts.l.length c.rts.cap]) ∧ CfOk w' c ∧ CfSpec s c ∧ Below w.heap.size w w'
theorem peersL_succ (s : ShV) (n k j : Nat) : peersL s n k (j + 1) = peersL s n k j ++ if conn s n k j then [rname j] else [] := by
  unfold peersL
  rw [List.range_succ, List.filter_append, List.map_append]
  cases h : conn s n k j <;> simp [h]
theorem gb_cells6 {W : World} {b : Nat} {x0 x1 x2 x3 x4 x5 : Value} {t : TypeId} (h : W.heap[b]? = some (.cells #[x0, x1, x2, x3, x4, x5] t (0, 0))) : W.cell? ⟨b, 0, none⟩ = some x0 ∧ W.cell? ⟨b, 1, none⟩ = some x1 ∧ W.cell? ⟨b, 2, none⟩ = some x2 ∧ W.cell? ⟨b, 3, none⟩ = some x3 ∧ W.cell? ⟨b, 4, none⟩ = some x4 ∧ W.cell? ⟨b, 5, none⟩ = some x5 :=
  ⟨gb_cell h 0, gb_cell h 1, gb_cell h 2, gb_cell h 3, gb_cell h 4, gb_cell h 5⟩
set_option maxRecDepth 100000 in
set_option maxHeartbeats 8000000 in
theorem shape_any (s : ShV) (w : World) (hs : ShOk w s) :
    Calls Tryd.prog 10 #[.agg #[.int .u8 s.n, .slice s.links.A s.links.l.length s.links.cap, .slice s.maps.A s.maps.l.length s.maps.cap, .slice s.names.A s.names.l.length s.names.cap, .slice s.nets.A s.nets.l.length s.nets.cap, .slice s.ways.A s.ways.l.length s.ways.cap]] w (ShPost s w) := by
  have HS := Lib.hid hs
  have hl1 := hs.maps.len_le
  have hn8 := hs.n
  obtain ⟨im, him, hzm0, hzm1, hzm2⟩ := info_parts zmap
  obtain ⟨ir, hir, hzr0, hzr1, hzr2⟩ := info_parts zrt
  obtain ⟨il, hil, hzl0, hzl1, hzl2⟩ := info_parts zlk
  obtain ⟨is, his, hzs0, hzs1, hzs2⟩ := info_parts zst
  obtain ⟨ip, hip, hzp0, hzp1, hzp2⟩ := info_parts zpx
  have IM := Lib.hid him; have IM0 := Lib.hid hzm0; have IM1 := Lib.hid hzm1; have IM2 := Lib.hid hzm2
  have IR := Lib.hid hir; have IR0 := Lib.hid hzr0; have IR1 := Lib.hid hzr1; have IR2 := Lib.hid hzr2
  have IL := Lib.hid hil; have IL0 := Lib.hid hzl0; have IL1 := Lib.hid hzl1; have IL2 := Lib.hid hzl2
  have IS := Lib.hid his; have IS0 := Lib.hid hzs0; have IS1 := Lib.hid hzs1; have IS2 := Lib.hid hzs2
  have IP := Lib.hid hip; have IP0 := Lib.hid hzp0; have IP1 := Lib.hid hzp1; have IP2 := Lib.hid hzp2
  clear hs him hzm0 hzm1 hzm2 hir hzr0 hzr1 hzr2 hil hzl0 hzl1 hzl2 his hzs0 hzs1 hzs2 hip hzp0 hzp1 hzp2
  go_enter Tryd.func10, Tryd.ntmps10
  go_wp2_with fail
  have b0 := gb_old _ (.cells #[.slice none 0 0, .slice none 0 0] 33) (gb_old _ (.cells #[.slice none 0 0, .slice none 0 0] 33) (gb_new w (.cells #[.int .u8 s.n, .slice s.links.A s.links.l.length s.links.cap, .slice s.maps.A s.maps.l.length s.maps.cap, .slice s.names.A s.names.l.length s.names.cap, .slice s.nets.A s.nets.l.length s.nets.cap, .slice s.ways.A s.ways.l.length s.ways.cap] 25)))
  have b1 := gb_old _ (.cells #[.slice none 0 0, .slice none 0 0] 33) (gb_new (w.alloc (.cells #[.int .u8 s.n, .slice s.links.A s.links.l.length s.links.cap, .slice s.maps.A s.maps.l.length s.maps.cap, .slice s.names.A s.names.l.length s.names.cap, .slice s.nets.A s.nets.l.length s.nets.cap, .slice s.ways.A s.ways.l.length s.ways.cap] 25)) (.cells #[.slice none 0 0, .slice none 0 0] 33))
  have b2 := gb_new ((w.alloc (.cells #[.int .u8 s.n, .slice s.links.A s.links.l.length s.links.cap, .slice s.maps.A s.maps.l.length s.maps.cap, .slice s.names.A s.names.l.length s.names.cap, .slice s.nets.A s.nets.l.length s.nets.cap, .slice s.ways.A s.ways.l.length s.ways.cap] 25)).alloc (.cells #[.slice none 0 0, .slice none 0 0] 33)) (.cells #[.slice none 0 0, .slice none 0 0] 33)
  simp only [World.size_alloc] at b1 b2
  have hB := gb_alloc (gb_alloc (gb_alloc (Below.refl w.heap.size w) (.cells #[.int .u8 s.n, .slice s.links.A s.links.l.length s.links.cap, .slice s.maps.A s.maps.l.length s.maps.cap, .slice s.names.A s.names.l.length s.names.cap, .slice s.nets.A s.nets.l.length s.nets.cap, .slice s.ways.A s.ways.l.length s.ways.cap] 25)) (.cells #[.slice none 0 0, .slice none 0 0] 33)) (.cells #[.slice none 0 0, .slice none 0 0] 33)
  have hz : (((w.alloc (.cells #[.int .u8 s.n, .slice s.links.A s.links.l.length s.links.cap, .slice s.maps.A s.maps.l.length s.maps.cap, .slice s.names.A s.names.l.length s.names.cap, .slice s.nets.A s.nets.l.length s.nets.cap, .slice s.ways.A s.ways.l.length s.ways.cap] 25)).alloc (.cells #[.slice none 0 0, .slice none 0 0] 33)).alloc (.cells #[.slice none 0 0, .slice none 0 0] 33)).heap.size = w.heap.size + 3 := by simp
  generalize ((w.alloc (.cells #[.int .u8 s.n, .slice s.links.A s.links.l.length s.links.cap, .slice s.maps.A s.maps.l.length s.maps.cap, .slice s.names.A s.names.l.length s.names.cap, .slice s.nets.A s.nets.l.length s.nets.cap, .slice s.ways.A s.ways.l.length s.ways.cap] 25)).alloc (.cells #[.slice none 0 0, .slice none 0 0] 33)).alloc (.cells #[.slice none 0 0, .slice none 0 0] 33) = W0 at *
  obtain ⟨B0, hB0⟩ : ∃ B0, B0 = w.heap.size + 3 := ⟨_, rfl⟩
  have C0 := Lib.hid b0; have C1 := Lib.hid b1; have C2 := Lib.hid b2; have D0 := Lib.hid hB
  have HZ := Lib.hid hz
  have HB0 := Lib.hid hB0
  have hB0l : w.heap.size + 2 < B0 := by omega
  clear b0 b1 b2 hB hz hB0
  go_loopw [17] (fun j wr => ∃ (k : Nat) (ms : List MpV) (Am : Option Addr) (cm : Nat), j = .int .i64 k ∧ k ≤ s.maps.l.length ∧ Hid (ms.map (·.name) = (List.range (min k 4)).map mname) ∧ Hid (ms.length = min k 4) ∧ Hid (wr.ownsRow B0 57 3 (.slice Am ms.length cm) ms.length (ms.flatMap mpc)) ∧ Hid (wr.heap[w.heap.size + 1 + 1]? = some (.cells #[.slice Am ms.length cm, .slice none 0 0] 33)) ∧ Hid (wr.heap[w.heap.size]? = some (.cells #[.int .u8 s.n, .slice s.links.A s.links.l.length s.links.cap, .slice s.maps.A s.maps.l.length s.maps.cap, .slice s.names.A s.names.l.length s.names.cap, .slice s.nets.A s.nets.l.length s.nets.cap, .slice s.ways.A s.ways.l.length s.ways.cap] 25)) ∧ Hid (wr.heap[w.heap.size + 1]? = some (.cells #[.slice none 0 0, .slice none 0 0] 33)) ∧ Hid (Below w.heap.size w wr) ∧ Hid (B0 ≤ wr.heap.size)) (fun j _ => s.maps.l.length - (intOf j).toNat)
  case atStart => exact ⟨0, [], none, 0, rfl, by omega, Lib.hid rfl, Lib.hid rfl, Lib.hid (World.ownsRow_nil W0 B0 57 3), C2, C0, C1, D0, Lib.hid (by rw [HZ.out, HB0.out]; exact Nat.le_refl _)⟩
  case round =>
    obtain ⟨k, ms, Am, cm, rfl, hk, HN, HML, HO, T2, T0, T1, HB, HW⟩ := hrel
    have hm4 : ms.length ≤ 4 := by rw [HML.out]; omega
    by_cases hlt : k < s.maps.l.length
    · obtain ⟨x, hx⟩ : ∃ x, s.maps.l[k]? = some x := ⟨_, List.getElem?_eq_getElem hlt⟩
      have HX := Lib.hid ((HS.out.below HB.out).maps.ok x (List.mem_of_getElem? hx))
      obtain ⟨b, off, hA, hbb, e0⟩ := rlss_get (HS.out.below HB.out).maps.at_ hx
      have HA := Lib.hid hA
      rw [hA]
      clear hx hA
      go_upto_region 5 with fail
      clear e0
      by_cases h4 : k < 4
      · have g1 : decide ((k : Int) < 4) = true := by simp; omega
        go_upto_region 6 with fail
        clear g1
        obtain ⟨R, hR⟩ : ∃ R, R = rb k := ⟨_, rfl⟩
        have hue : Utf8.encode (97 + (k : Int)) = R := by rw [hR]; exact enc_rune k (by omega)
        have hRs : R.size = 1 := by rw [hR]; rfl
        have HR := Lib.hid hR
        clear hR
        have e1 : IntKind.i64.wrap (97 + (k : Int)) = 97 + (k : Int) := by rw [IntKind.wrap_i64]; omega
        have e2 : IntKind.i32.wrap (97 + (k : Int)) = 97 + (k : Int) := by rw [IntKind.wrap_i32]; omega
        have BD := Lib.hid ((Below.refl wr.heap.size wr).drew)
        obtain ⟨q0, q1⟩ := gb_cells2 (gb_blk BD.out T2.out (gb_lt T2.out))
        have f0 := gb_free (gb_blk BD.out T2.out (gb_lt T2.out)) 0
        have lq : w.heap.size + 1 + 1 < wr.heap.size := gb_lt T2.out
        have hbw := HW.out
        have hcc := clauses_any x.A x.cap x.l HX.out.ok wr.drew ((HX.out.below BD.out).at_) HX.out.len_le
        have HCC := Lib.hid hcc
        clear hcc
        refine Mq.wp_region_T 11 (fun w' => w'.cell? ⟨w.heap.size + 1 + 1, 0, none⟩ = some (.slice Am ms.length cm)) (by kernel_rfl) ?_ (fun hHeld => ?_)
        · exact q0
        refine Mq.T_take 0 (v := ?_) rfl (by kernel_rfl) (by kernel_rfl) (by kernel_rfl) (by kernel_rfl) (by kernel_rfl) (by kernel_rfl) (by kernel_rfl) (fun _ _ _ h => h) (by rfl) hHeld ?_ ?_
        rotate_left
        · (intro w hSw; (try dsimp only at hSw); go_simp; (try with_reducible rfl))
        try simp only [Act.put, List.setIfInBounds_toArray, List.set_cons_zero, List.set_cons_succ]
        refine Mq.T_take 1 (v := ?_) rfl (by kernel_rfl) (by kernel_rfl) (by kernel_rfl) (by kernel_rfl) (by kernel_rfl) (by kernel_rfl) (by kernel_rfl) (fun _ _ _ h => h) (by rfl) hHeld ?_ ?_
        rotate_left
        · (intro w hSw; (try dsimp only at hSw); go_simp; (try with_reducible rfl))
        try simp only [Act.put, List.setIfInBounds_toArray, List.set_cons_zero, List.set_cons_succ]
        refine Mq.T_take 2 (v := ?_) rfl (by kernel_rfl) (by kernel_rfl) (by kernel_rfl) (by kernel_rfl) (by kernel_rfl) (by kernel_rfl) (by kernel_rfl) (fun _ _ _ h => h) (by rfl) hHeld ?_ ?_
        rotate_left
        · (intro w hSw; (try dsimp only at hSw); go_simp; (try with_reducible rfl))
        try simp only [Act.put, List.setIfInBounds_toArray, List.set_cons_zero, List.set_cons_succ]
        refine Mq.T_take 3 (v := ?_) rfl (by kernel_rfl) (by kernel_rfl) (by kernel_rfl) (by kernel_rfl) (by kernel_rfl) (by kernel_rfl) (by kernel_rfl) (fun _ _ _ h => h) (by rfl) hHeld ?_ ?_
        rotate_left
        · (intro w hSw; (try dsimp only at hSw); go_simp; (try with_reducible rfl))
        try simp only [Act.put, List.setIfInBounds_toArray, List.set_cons_zero, List.set_cons_succ]
        refine Mq.T_take 4 (v := ?_) rfl (by kernel_rfl) (by kernel_rfl) (by kernel_rfl) (by kernel_rfl) (by kernel_rfl) (by kernel_rfl) (by kernel_rfl) (fun _ _ _ h => h) (by rfl) hHeld ?_ ?_
        rotate_left
        · (intro w hSw; (try dsimp only at hSw); go_simp; (try with_reducible rfl))
        try simp only [Act.put, List.setIfInBounds_toArray, List.set_cons_zero, List.set_cons_succ]
        refine Mq.T_take 5 (v := ?_) rfl (by kernel_rfl) (by kernel_rfl) (by kernel_rfl) (by kernel_rfl) (by kernel_rfl) (by kernel_rfl) (by kernel_rfl) (fun _ _ _ h => h) (by rfl) hHeld ?_ ?_
        rotate_left
        · (intro w hSw; (try dsimp only at hSw); go_simp; (try with_reducible rfl))
        try simp only [Act.put, List.setIfInBounds_toArray, List.set_cons_zero, List.set_cons_succ]
        refine Mq.T_take 6 (v := ?_) rfl (by kernel_rfl) (by kernel_rfl) (by kernel_rfl) (by kernel_rfl) (by kernel_rfl) (by kernel_rfl) (by kernel_rfl) (fun _ _ _ h => h) (by rfl) hHeld ?_ ?_
        rotate_left
        · (intro w hSw; (try dsimp only at hSw); go_simp; (try with_reducible rfl))
        try simp only [Act.put, List.setIfInBounds_toArray, List.set_cons_zero, List.set_cons_succ]
        refine Mq.T_take 7 (v := ?_) rfl (by kernel_rfl) (by kernel_rfl) (by kernel_rfl) (by kernel_rfl) (by kernel_rfl) (by kernel_rfl) (by kernel_rfl) (fun _ _ _ h => h) (by rfl) hHeld ?_ ?_
        rotate_left
        · (intro w hSw; (try dsimp only at hSw); go_simp; (try with_reducible rfl))
        try simp only [Act.put, List.setIfInBounds_toArray, List.set_cons_zero, List.set_cons_succ]
        refine Mq.T_step 8 (by kernel_rfl) (by kernel_rfl) rfl (fun K hK => ?_)
        go_simp
        (with_reducible refine HCC.out.mono ?_)
        rintro en w8 ⟨A8, c8, rfl, ho8, hb8⟩
        have B8 := Lib.hid (gb_trans BD.out hb8); have O8 := Lib.hid (ow_below HO.out B8.out); have t8 := gb_blk B8.out T2.out (gb_lt T2.out); obtain ⟨q0, q1⟩ := gb_cells2 t8; have f0 := gb_free t8 0; have T8 := Lib.hid t8; have S8 := Lib.hid (gb_blk B8.out T0.out (gb_lt T0.out)); have R8 := Lib.hid (gb_blk B8.out T1.out (gb_lt T1.out)); have l8 := gb_lt t8; have z8 := B8.out.size
        clear ho8 hb8 t8 hue e1 e2 hRs
        try dsimp only
        refine hK.out _ _ ?_ (fun hHeld2 => ?_)
        · exact q0
        clear hK K hHeld
        have hHeld := hHeld2
        clear hHeld2
        refine Mq.T_take 9 (v := ?_) rfl (by kernel_rfl) (by kernel_rfl) (by kernel_rfl) (by kernel_rfl) (by kernel_rfl) (by kernel_rfl) (by kernel_rfl) (fun _ _ _ h => h) (by rfl) hHeld ?_ ?_
        rotate_left
        · (intro w hSw; (try dsimp only at hSw); go_simp; (try with_reducible rfl))
        try simp only [Act.put, List.setIfInBounds_toArray, List.set_cons_zero, List.set_cons_succ]
        refine Mq.T_step 10 (by kernel_rfl) (by kernel_rfl) rfl (fun K hK => ?_)
        go_simp
        refine hK.out _ _ ?_ (fun hHeld2 => ?_)
        · exact (World.cell?_alloc_some _ _ _ (by rw [q0]; rfl)).trans q0
        clear hK K hHeld
        have hHeld := hHeld2
        clear hHeld2
        refine Mq.T_last (by kernel_rfl) rfl (fun K hK => ?_)
        refine step_append_lies _ (by rfl) _ _ _ (by rfl) B0 57 im _ 3 48 Tryd.underlying30 IM.out IM0.out IM1.out IM2.out rfl (by omega) (.slice Am ms.length cm) ms.length (ms.flatMap mpc) (by rfl) (ow_alloc O8.out _) ⟨w8.heap.size, 0, none⟩ 1 1 [.string (⟨#[109]⟩ ++ R), .slice A8 (ruleCls x.l).length c8, .int .i64 0] (by rfl) (by rfl) (World.news_of_block (cs := ([.string (⟨#[109]⟩ ++ R), .slice A8 (ruleCls x.l).length c8, .int .i64 0]).toArray) (heap_alloc_new w8 _)) (by intro u hu; simp at hu; rcases hu with rfl | rfl | rfl <;> rfl) (by omega) (by unfold maxLen; omega) (by omega) (by simp; omega) (w8.heap.size + 1) (by simp) ?_
        intro g cap' w7 hown7 hgrow hat hlt7
        have O7 := Lib.hid hown7; have G7 := Lib.hid hgrow; have t7 := blk_grown (gb_old w8 _ T8.out) (ow_alloc O8.out _) (by decide) hgrow; obtain ⟨q0, q1⟩ := gb_cells2 t7; have f0 := gb_free t7 0; have l7 := gb_lt t7; have T7 := Lib.hid t7; have S7 := Lib.hid (blk_grown (gb_old w8 _ S8.out) (ow_alloc O8.out _) (by decide) hgrow); have R7 := Lib.hid (blk_grown (gb_old w8 _ R8.out) (ow_alloc O8.out _) (by decide) hgrow)
        clear hown7 hgrow t7 hat hlt7
        refine hK.out _ _ ?_
        clear hK K hHeld
        try simp only [Act.put, List.setIfInBounds_toArray, List.set_cons_zero, List.set_cons_succ]
        refine Mq.A_take 12 (v := ?_) rfl (by kernel_rfl) (by kernel_rfl) (by kernel_rfl) (fun _ _ _ h => h) (by rfl) ?_ ?_
        rotate_left
        · (intro w; go_simp; (try with_reducible rfl))
        try simp only [Act.put, List.setIfInBounds_toArray, List.set_cons_zero, List.set_cons_succ]
        refine Mq.A_step 13 (by kernel_rfl) rfl (fun K hK => ?_)
        go_simp
        refine hK.out _ _ ?_
        clear hK K
        refine wpAny_done (by kernel_rfl) ?_ _
        all_goals
          go_wp2_with fail
          go_roundw
          case measure => simp [intOf] <;> omega
          case rel =>
            have HNEW : [.string (⟨#[109]⟩ ++ R), .slice A8 (ruleCls x.l).length c8, .int .i64 0] = mpc ⟨mname k, (A8, (ruleCls x.l).length, c8), 0⟩ := by rw [HR.out, mname_eq k (by omega)]; rfl
            have o7 := O7.out
            rw [HNEW] at o7
            have t7 := gb_set T7.out 0 (.slice (some ⟨g, 0, none⟩) (ms.length + 1) cap')
            have o8 := own_snoc (own_store o7 T7.out (by decide) 0 (.slice (some ⟨g, 0, none⟩) (ms.length + 1) cap'))
            have hb7 := ow_grown (gb_alloc (gb_trans HB.out B8.out) _) G7.out (own_le O8.out (show w.heap.size ≤ B0 by omega)) (by have := HB.out.size; have := B8.out.size; simp; omega)
            have hz7 := G7.out.size
            refine ⟨k + 1, ms ++ [⟨mname k, (A8, (ruleCls x.l).length, c8), 0⟩], some ⟨g, 0, none⟩, cap', by go_num, by omega, Lib.hid (by rw [range_min_succ h4, ← HN.out]; simp), Lib.hid (by rw [List.length_append, HML.out]; simp; omega), Lib.hid o8, Lib.hid (by simpa using t7), Lib.hid (by rw [← HA.out]; exact gb_far S7.out (by first | omega | (simp <;> omega)) _), Lib.hid (gb_far R7.out (by first | omega | (simp <;> omega)) _), Lib.hid (Below.setCell hb7 (by simp; omega) _), Lib.hid ?_⟩
            have := B8.out.size; simp at hz7; simp; omega
      · have g1 : decide ((k : Int) < 4) = false := by simp; omega
        go_wp2_with fail
        go_roundw
        case rel => exact ⟨k + 1, ms, Am, cm, by go_num, by omega, Lib.hid (by rw [HN.out]; congr 2; omega), Lib.hid (by rw [HML.out]; omega), HO, T2, by rw [← HA.out]; exact T0, T1, HB, HW⟩
        case measure => simp [intOf] <;> omega
    · obtain rfl : s.maps.l.length = k := by omega
      obtain ⟨n, hn⟩ : ∃ n, n = s.n % 8 := ⟨_, rfl⟩
      have hn7 : n < 8 := by omega
      have en : (s.n : Int) % 8 = (n : Int) := by omega
      have en2 : (s.n : Int).tmod 8 = (n : Int) := by rw [Int.tmod_eq_emod_of_nonneg (by omega)]; exact en
      have HNN := Lib.hid hn
      obtain ⟨W1, hW1⟩ : ∃ W1, W1 = wr := ⟨_, rfl⟩
      subst hW1
      have p0 := gb_cell T0.out 0
      simp only [List.getElem?_toArray, List.getElem?_cons_zero] at p0
      clear hn
      go_wp2_with fail
      clear p0 en en2
      go_loopw [7] (fun j wr => ∃ (k : Nat) (rs : List RtV) (Ar : Option Addr) (cr : Nat), j = .int .i64 k ∧ k ≤ n ∧ Hid (rs.length = k) ∧ Hid (∀ i u, rs[i]? = some u → RtSpec s n i u) ∧ Hid (∀ u ∈ rs, RtOk wr u ∧ RtIn (fun b => B0 ≤ b ∧ (Value.slice Ar rs.length cr).ownBlock ≠ some b) u) ∧ Hid (wr.ownsRow B0 48 5 (.slice Ar rs.length cr) rs.length (rs.flatMap rtc)) ∧ Hid (wr.ownsRow B0 57 3 (.slice Am ms.length cm) ms.length (ms.flatMap mpc)) ∧ Hid (wr.heap[w.heap.size + 1 + 1]? = some (.cells #[.slice Am ms.length cm, .slice Ar rs.length cr] 33)) ∧ Hid (wr.heap[w.heap.size]? = some (.cells #[.int .u8 s.n, .slice s.links.A s.links.l.length s.links.cap, .slice s.maps.A s.maps.l.length s.maps.cap, .slice s.names.A s.names.l.length s.names.cap, .slice s.nets.A s.nets.l.length s.nets.cap, .slice s.ways.A s.ways.l.length s.ways.cap] 25)) ∧ Hid (wr.heap[w.heap.size + 1]? = some (.cells #[.slice none 0 0, .slice none 0 0] 33)) ∧ Hid (Below w.heap.size w wr) ∧ Hid (B0 ≤ wr.heap.size)) (fun j _ => n - (intOf j).toNat)
      case atStart => exact ⟨0, [], none, 0, rfl, by omega, Lib.hid rfl, Lib.hid (fun i u h => by simp at h), Lib.hid (fun u h => by simp at h), Lib.hid (World.ownsRow_nil _ B0 48 5), HO, T2, T0, T1, HB, HW⟩
      case round =>
        obtain ⟨k, rs, Ar, cr, rfl, hk, HRL, HSP, HRO, HOR, HOM, T2, T0, T1, HB, HW⟩ := hrel
        obtain ⟨w2, hw2⟩ : ∃ W2, W2 = wr := ⟨_, rfl⟩
        subst hw2
        have hrl7 : rs.length ≤ 7 := by rw [HRL.out]; omega
        by_cases hlt : k < n
        · skip
          go_upto_region 13 with (first | (go_at_call 16; refine (name_any k (by omega) _).mono ?_; rintro en w8 ⟨rfl, hw8⟩; subst w8))
          obtain ⟨nm, hnm⟩ : ∃ nm, nm = rname k := ⟨_, rfl⟩
          rw [← hnm]
          have HNAME := Lib.hid hnm
          clear hnm
          have t0 := gb_new w2 (.cells #[.string nm, .slice none 0 0, .slice none 0 0, .slice none 0 0, .int .i64 0] 48)
          have hbq := gb_alloc (Below.refl w2.heap.size w2) (.cells #[.string nm, .slice none 0 0, .slice none 0 0, .slice none 0 0, .int .i64 0] 48)
          obtain ⟨rbx, hrbx⟩ : ∃ n, n = w2.heap.size := ⟨_, rfl⟩
          have hz2 : (w2.alloc (.cells #[.string nm, .slice none 0 0, .slice none 0 0, .slice none 0 0, .int .i64 0] 48)).heap.size = rbx + 1 := by rw [hrbx]; simp
          rw [← hrbx] at t0 ⊢
          generalize w2.alloc (.cells #[.string nm, .slice none 0 0, .slice none 0 0, .slice none 0 0, .int .i64 0] 48) = w3 at *
          have X3 := Lib.hid t0
          have HB3 := Lib.hid hbq
          have HZ3 := Lib.hid hz2
          have HRBX := Lib.hid hrbx
          have S3 := Lib.hid (gb_blk hbq T0.out (gb_lt T0.out))
          have HS3 := Lib.hid (HS.out.below (gb_trans HB.out hbq))
          have lwr : w.heap.size + 2 < rbx := by have := HW.out; rw [hrbx]; omega
          clear t0 hbq hz2 hrbx
          have hvl := numL_lt HS3.out.nets.ok k
          have hlk := numL_lt (l := s.links.l) HS3.out.links.ok
          have HLK := Lib.hid hlk
          have hnm := numL_lt (l := s.names.l) HS3.out.names.ok
          have HNM := Lib.hid hnm
          have hwy := numL_lt (l := s.ways.l) HS3.out.ways.ok
          have HWY := Lib.hid hwy
          clear hlk hnm hwy
          obtain ⟨s0, s1, s2, s3, s4, s5⟩ := gb_cells6 S3.out
          go_upto_region 14 with (first | (go_at_call 21; refine (number_any s.nets k (by omega) _ HS3.out.nets).mono ?_; rintro en w8 ⟨rfl, hw8⟩; subst w8))
          clear s0 s1 s2 s3 s4 s5
          generalize numL s.nets.l k = v at *
          go_cut [60] (fun g wx => (∃ bb : Bool, g = .bool bb) ∧ wx = w3)
          case first =>
            by_cases hk0 : k = 0
            · have h0 : ((k : Int) == 0) = true := by simp; omega
              go_wp2_with fail
              go_meet
              exact ⟨⟨_, rfl⟩, rfl⟩
            · have h0 : ((k : Int) == 0) = false := by simp; omega
              go_wp2_with fail
              go_meet
              exact ⟨⟨_, rfl⟩, rfl⟩
          case rest =>
            obtain ⟨⟨bb, rfl⟩, hwc⟩ := hcut
            subst wc
            go_upto_if 60 with (fail)
            go_cut [9] (fun g wx => g = .int .i64 v ∧ ∃ (An : Option Addr) (cn : Nat) (nl : List Pfx), Hid (nl.length ≤ 1) ∧ Hid (wx.heap[rbx]? = some (.cells #[.string nm, .slice An nl.length cn, .slice none 0 0, .slice none 0 0, .int .i64 0] 48)) ∧ Hid (wx.ownsRow (rbx + 1) 66 2 (.slice An nl.length cn) nl.length (nl.flatMap pfc)) ∧ Hid (Below w2.heap.size w2 wx))
            case first =>
              cases bb
              · go_wp2_with fail
                go_meet
                exact ⟨rfl, none, 0, [], Lib.hid (by simp), X3, Lib.hid (World.ownsRow_nil _ _ _ _), HB3⟩
              · skip
                have hmk_dummy := True.intro
                have hmk : ∃ pv : Pfx, ∀ w, Calls Tryd.prog 22 #[.int .u8 v] w fun e w' => e = .returned (.agg #[.int .u32 pv.addr, .int .i64 pv.bits]) ∧ Below w.heap.size w w' := ⟨mkP v, fun w => make_any v hvl w⟩
                obtain ⟨pv, hmk⟩ := hmk
                have HMK := Lib.hid hmk
                clear hmk
                have e8 : IntKind.u8.wrap (v : Int) = (v : Int) := by simp [IntKind.wrap, IntKind.bits, IntKind.signed]; omega
                go_upto_region 15 with fail
                have BD := Lib.hid ((Below.refl w3.heap.size w3).drew)
                obtain ⟨x0, x1, x2, x3, x4⟩ := gb_cells5 (gb_blk BD.out X3.out (gb_lt X3.out))
                have f1 := gb_free (gb_blk BD.out X3.out (gb_lt X3.out)) 1
                have p0 := gb_cell (gb_blk BD.out S3.out (gb_lt S3.out)) 0
                simp only [List.getElem?_toArray, List.getElem?_cons_zero] at p0
                have hz3 : w3.heap.size = rbx + 1 := HZ3.out
                have HZ3' := Lib.hid hz3
                have lz3 : rbx < w3.heap.size := gb_lt X3.out
                have lz4 : rbx + 1 ≤ w3.heap.size := by omega
                clear hz3
                refine wp_region_noPanic ?_
                refine Mq.wp_region_T 6 (fun w' => w'.cell? ⟨rbx, 1, none⟩ = some (.slice none 0 0)) (by kernel_rfl) ?_ (fun hHeld => ?_)
                · exact x1
                refine Mq.T_take 0 (v := ?_) rfl (by kernel_rfl) (by kernel_rfl) (by kernel_rfl) (by kernel_rfl) (by kernel_rfl) (by kernel_rfl) (by kernel_rfl) (fun _ _ _ h => h) (by rfl) hHeld ?_ ?_
                rotate_left
                · (intro w hSw; (try dsimp only at hSw); go_simp; (try with_reducible rfl))
                try simp only [Act.put, List.setIfInBounds_toArray, List.set_cons_zero, List.set_cons_succ]
                refine Mq.T_take 1 (v := ?_) rfl (by kernel_rfl) (by kernel_rfl) (by kernel_rfl) (by kernel_rfl) (by kernel_rfl) (by kernel_rfl) (by kernel_rfl) (fun _ _ _ h => h) (by rfl) hHeld ?_ ?_
                rotate_left
                · (intro w hSw; (try dsimp only at hSw); go_simp; (try with_reducible rfl))
                try simp only [Act.put, List.setIfInBounds_toArray, List.set_cons_zero, List.set_cons_succ]
                refine Mq.T_take 2 (v := ?_) rfl (by kernel_rfl) (by kernel_rfl) (by kernel_rfl) (by kernel_rfl) (by kernel_rfl) (by kernel_rfl) (by kernel_rfl) (fun _ _ _ h => h) (by rfl) hHeld ?_ ?_
                rotate_left
                · (intro w hSw; (try dsimp only at hSw); go_simp; (try with_reducible rfl))
                try simp only [Act.put, List.setIfInBounds_toArray, List.set_cons_zero, List.set_cons_succ]
                refine Mq.T_take 3 (v := ?_) rfl (by kernel_rfl) (by kernel_rfl) (by kernel_rfl) (by kernel_rfl) (by kernel_rfl) (by kernel_rfl) (by kernel_rfl) (fun _ _ _ h => h) (by rfl) hHeld ?_ ?_
                rotate_left
                · (intro w hSw; (try dsimp only at hSw); go_simp; (try with_reducible rfl))
                try simp only [Act.put, List.setIfInBounds_toArray, List.set_cons_zero, List.set_cons_succ]
                refine Mq.T_step 4 (by kernel_rfl) (by kernel_rfl) rfl (fun K hK => ?_)
                go_simp
                (with_reducible refine (HMK.out _).mono ?_)
                rintro en w8 ⟨rfl, hb8⟩
                clear e8
                have B8 := Lib.hid (gb_trans BD.out hb8)
                have X8 := Lib.hid (gb_blk B8.out X3.out (gb_lt X3.out))
                have S8 := Lib.hid (gb_blk B8.out S3.out (gb_lt S3.out))
                obtain ⟨x0, x1, x2, x3, x4⟩ := gb_cells5 X8.out
                have l8 := gb_lt X8.out
                have z8 := B8.out.size
                clear hb8
                try dsimp only
                refine hK.out _ _ ?_ (fun hHeld2 => ?_)
                · exact x1
                clear hK K hHeld
                have hHeld := hHeld2
                clear hHeld2
                refine Mq.T_step 5 (by kernel_rfl) (by kernel_rfl) rfl (fun K hK => ?_)
                go_simp
                refine hK.out _ _ ?_ (fun hHeld2 => ?_)
                · exact (World.cell?_alloc_some _ _ _ (by rw [x1]; rfl)).trans x1
                clear hK K hHeld
                have hHeld := hHeld2
                clear hHeld2
                refine Mq.T_last (by kernel_rfl) rfl (fun K hK => ?_)
                refine step_append_lies _ (by rfl) _ _ _ (by rfl) (rbx + 1) 66 ip _ 2 16 Tryd.underlying44 IP.out IP0.out IP1.out IP2.out rfl (by omega) (.slice none 0 0) 0 [] (by rfl) (World.ownsRow_nil _ _ _ _) ⟨w8.heap.size, 0, none⟩ 1 1 [.int .u32 pv.addr, .int .i64 pv.bits] (by rfl) (by rfl) (World.news_of_block (cs := #[.int .u32 pv.addr, .int .i64 pv.bits]) (heap_alloc_new w8 _)) (by intro u hu; simp at hu; rcases hu with rfl | rfl <;> rfl) (by omega) (by unfold maxLen; omega) (by omega) (by simp; omega) (w8.heap.size + 1) (by simp) ?_
                intro g cap' w7 hown7 hgrow hat hlt7
                have O7 := Lib.hid hown7
                have G7 := Lib.hid hgrow
                have T7 := Lib.hid (blk_grown (gb_old w8 _ X8.out) (World.ownsRow_nil _ (rbx + 1) 66 2) (by decide) hgrow)
                obtain ⟨x0, x1, x2, x3, x4⟩ := gb_cells5 T7.out
                have f1 := gb_free T7.out 1
                have l7 := gb_lt T7.out
                clear hown7 hgrow hat hlt7
                refine hK.out _ _ ?_
                clear hK K hHeld
                try simp only [Act.put, List.setIfInBounds_toArray, List.set_cons_zero, List.set_cons_succ]
                refine Mq.A_take 7 (v := ?_) rfl (by kernel_rfl) (by kernel_rfl) (by kernel_rfl) (fun _ _ _ h => h) (by rfl) ?_ ?_
                rotate_left
                · (intro w; go_simp; (try with_reducible rfl))
                try simp only [Act.put, List.setIfInBounds_toArray, List.set_cons_zero, List.set_cons_succ]
                refine Mq.A_step 8 (by kernel_rfl) rfl (fun K hK => ?_)
                go_simp
                refine hK.out _ _ ?_
                clear hK K
                refine wpAny_done (by kernel_rfl) ?_ _
                refine NoPanic.normal ?_
                all_goals
                  go_wp2_with fail
                  go_meet
                  have o7 := own_snoc (enc := pfc) (a := pv) (l := []) O7.out
                  have hb7 := ow_grown (gb_alloc (gb_trans HB3.out B8.out) _) G7.out (World.ownsRow_nil w8 w2.heap.size 66 2) (by have := HB3.out.size; have := B8.out.size; simp; omega)
                  refine ⟨rfl, some ⟨g, 0, none⟩, cap', [pv], Lib.hid (by simp), Lib.hid (by simpa using gb_set T7.out 1 (.slice (some ⟨g, 0, none⟩) 1 cap')), Lib.hid (own_store o7 T7.out (by decide) 1 _), Lib.hid (Below.setCell hb7 (by rw [HRBX.out]; exact Nat.le_refl _) _)⟩
            case rest =>
              obtain ⟨rfl, An, cn, nl, HNL, X4, HON, HB4⟩ := hcut
              go_wp2_with fail
              go_loopw [10] (fun j wr => ∃ (jj : Nat) (ls : List LkV) (Al : Option Addr) (cl : Nat), j = .int .i64 jj ∧ jj ≤ n ∧ Hid (ls.length ≤ jj) ∧ Hid (ls.map (·.peer) = peersL s n k jj) ∧ Hid (MapsOk s ls) ∧ Hid (wr.heap[rbx]? = some (.cells #[.string nm, .slice An nl.length cn, .slice Al ls.length cl, .slice none 0 0, .int .i64 0] 48)) ∧ Hid (wr.ownsRow (rbx + 1) 66 2 (.slice An nl.length cn) nl.length (nl.flatMap pfc)) ∧ Hid (wr.ownsRow (rbx + 1) 50 5 (.slice Al ls.length cl) ls.length (ls.flatMap lkc)) ∧ Hid (Below w2.heap.size w2 wr)) (fun j _ => n - (intOf j).toNat)
              case atStart => exact ⟨0, [], none, 0, rfl, by omega, Lib.hid (by simp), Lib.hid rfl, Lib.hid (fun x h => by simp at h), X4, HON, Lib.hid (World.ownsRow_nil _ _ _ _), HB4⟩
              case round =>
                obtain ⟨jj, ls, Al, cl, rfl, hj, HLL, HPE, HMO, X5, HON5, HOL5, HB5⟩ := hrel
                obtain ⟨w5, hw5⟩ : ∃ W2, W2 = wr := ⟨_, rfl⟩
                subst hw5
                have S5 := Lib.hid (gb_blk HB5.out T0.out (gb_lt T0.out))
                have HS5 := Lib.hid (HS.out.below (gb_trans HB.out HB5.out))
                have hll := HLL.out
                by_cases hltj : jj < n
                · obtain ⟨I, hI⟩ : ∃ I, I = min jj k * n + max jj k := ⟨_, rfl⟩
                  have hmn : min jj k * n ≤ 7 * 7 := Nat.mul_le_mul (by omega) (by omega)
                  have hI100 : I < 100 := by omega
                  have c1 : ((min jj k : Nat) : Int) = min (jj : Int) (k : Int) := by omega
                  have c2 : ((max jj k : Nat) : Int) = max (jj : Int) (k : Int) := by omega
                  have c3 : min (jj : Int) (k : Int) * (n : Int) = ((min jj k * n : Nat) : Int) := by rw [Int.natCast_mul, c1]
                  have e1 : IntKind.i64.wrap (min (jj : Int) (k : Int) * (n : Int)) = min (jj : Int) (k : Int) * (n : Int) := by rw [IntKind.wrap_i64, c3]; omega
                  have e2 : min (jj : Int) (k : Int) * (n : Int) + max (jj : Int) (k : Int) = (I : Int) := by rw [c3, ← c2, hI, Int.natCast_add]
                  have e3 : IntKind.i64.wrap (I : Int) = (I : Int) := by rw [IntKind.wrap_i64]; omega
                  have HI := Lib.hid hI
                  clear hI hmn c1 c2 c3
                  go_upto_region 20 with fail
                  clear e1 e2 e3
                  have hu3 := HLK.out I
                  have HCD : Hid (conn s n k jj = ((jj != k) && (decide (0 < numL s.links.l I % 3) || jj == k + 1 || k == jj + 1))) := Lib.hid (by rw [HI.out]; rfl)
                  have HNC : Hid (∀ wx, wx = w5 → Calls Tryd.prog 21 #[.slice s.links.A s.links.l.length s.links.cap, .int .i64 I] wx fun e w' => e = .returned (.int .i64 (numL s.links.l I : Nat)) ∧ w' = wx) := Lib.hid (fun wx hx => by subst hx; exact number_any s.links I (by omega) _ HS5.out.links)
                  obtain ⟨u, hu⟩ : ∃ u, u = numL s.links.l I := ⟨_, rfl⟩
                  rw [← hu] at HCD HNC hu3
                  have HU := Lib.hid hu
                  clear hu
                  go_cut [105] (fun g wx => g = .bool (conn s n k jj) ∧ wx = w5)
                  case first =>
                    by_cases hjk : jj = k
                    · have g0 : ((jj : Int) != (k : Int)) = false := by simp; omega
                      have HCN : Hid (conn s n k jj = false) := Lib.hid (by rw [HCD.out]; simp [hjk])
                      clear hjk
                      go_wp2_with fail
                      go_meet
                      exact ⟨by rw [HCN.out], rfl⟩
                    · have g0 : ((jj : Int) != (k : Int)) = true := by simp; omega
                      have HJK := Lib.hid hjk
                      clear hjk
                      obtain ⟨s0, s1, s2, s3, s4, s5⟩ := gb_cells6 S5.out
                      by_cases h1 : 0 < u % 3
                      · have g1 : decide ((0 : Int) < (u : Int) % 3) = true := by simp; omega
                        have HCN : Hid (conn s n k jj = true) := Lib.hid (by rw [HCD.out]; simp [HJK.out, h1])
                        clear h1
                        go_wp2_with fail
                        (with_reducible refine (HNC.out _ rfl).mono ?_); rintro en w8 ⟨rfl, hw8⟩; subst w8
                        go_wp2_with fail
                        go_meet
                        exact ⟨by first | (rw [HCN.out]; done) | (rw [HCN.out]; simp [*]), rfl⟩
                      · have g1 : decide ((0 : Int) < (u : Int) % 3) = false := by simp; omega
                        by_cases h2 : jj = k + 1
                        · have g2 : ((jj : Int) == (k : Int) + 1) = true := by simp; omega
                          have HCN : Hid (conn s n k jj = true) := Lib.hid (by rw [HCD.out]; simp [h2])
                          clear h1 h2
                          go_wp2_with fail
                          (with_reducible refine (HNC.out _ rfl).mono ?_); rintro en w8 ⟨rfl, hw8⟩; subst w8
                          go_wp2_with fail
                          go_meet
                          exact ⟨by first | (rw [HCN.out]; done) | (rw [HCN.out]; simp [*]), rfl⟩
                        · have g2 : ((jj : Int) == (k : Int) + 1) = false := by simp; omega
                          by_cases h3 : k = jj + 1
                          · have g3 : ((k : Int) == (jj : Int) + 1) = true := by simp; omega
                            have HCN : Hid (conn s n k jj = true) := Lib.hid (by rw [HCD.out]; simp [h3])
                            clear h1 h2 h3
                            go_wp2_with fail
                            (with_reducible refine (HNC.out _ rfl).mono ?_); rintro en w8 ⟨rfl, hw8⟩; subst w8
                            go_wp2_with fail
                            go_meet
                            exact ⟨by first | (rw [HCN.out]; done) | (rw [HCN.out]; simp [*]), rfl⟩
                          · have g3 : ((k : Int) == (jj : Int) + 1) = false := by simp; omega
                            have HCN : Hid (conn s n k jj = false) := Lib.hid (by rw [HCD.out]; simp [HJK.out, h1, h2, h3])
                            clear h1 h2 h3
                            go_wp2_with fail
                            (with_reducible refine (HNC.out _ rfl).mono ?_); rintro en w8 ⟨rfl, hw8⟩; subst w8
                            go_wp2_with fail
                            go_meet
                            exact ⟨by first | (rw [HCN.out]; done) | (rw [HCN.out]; simp [*]), rfl⟩
                  case rest =>
                    obtain ⟨rfl, hwc⟩ := hcut
                    subst wc
                    generalize hcb : conn s n k jj = cb at *
                    have HCB := Lib.hid hcb
                    clear hcb
                    cases cb with
                    | false =>
                      go_wp2_with fail
                      go_roundw
                      case rel => exact ⟨jj + 1, ls, Al, cl, by go_num, by omega, Lib.hid (by omega), Lib.hid (by rw [peersL_succ, HCB.out, HPE.out]; simp), HMO, X5, HON5, HOL5, HB5⟩
                      case measure => simp [intOf] <;> omega
                    | true =>
                      obtain ⟨J, hJ⟩ : ∃ J, J = k * n + jj := ⟨_, rfl⟩
                      have hkn : k * n ≤ 7 * 7 := Nat.mul_le_mul (by omega) (by omega)
                      have hJ100 : J < 100 := by omega
                      have c3 : (k : Int) * (n : Int) = ((k * n : Nat) : Int) := by rw [Int.natCast_mul]
                      have e1 : IntKind.i64.wrap ((k : Int) * (n : Int)) = (k : Int) * (n : Int) := by rw [IntKind.wrap_i64, c3]; omega
                      have e2 : (k : Int) * (n : Int) + (jj : Int) = (J : Int) := by rw [c3, hJ, Int.natCast_add]
                      have e3 : IntKind.i64.wrap (J : Int) = (J : Int) := by rw [IntKind.wrap_i64]; omega
                      clear hJ hkn c3
                      have hv2 := HNM.out J
                      have HNC2 : Hid (∀ wx, wx = w5 → Calls Tryd.prog 21 #[.slice s.names.A s.names.l.length s.names.cap, .int .i64 J] wx fun e w' => e = .returned (.int .i64 (numL s.names.l J : Nat)) ∧ w' = wx) := Lib.hid (fun wx hx => by subst hx; exact number_any s.names J (by omega) _ HS5.out.names)
                      generalize numL s.names.l J = v2 at *
                      obtain ⟨s0, s1, s2, s3, s4, s5⟩ := gb_cells6 S5.out
                      go_upto_region 22 with (first | (go_at_call 21; (with_reducible refine (HNC2.out _ rfl).mono ?_); rintro en w8 ⟨rfl, hw8⟩; subst w8) | fail)
                      clear e1 e2 e3 s0 s1 s2 s3 s4 s5
                      have BD := Lib.hid ((Below.refl w5.heap.size w5).drew)
                      obtain ⟨q1, hq1⟩ : ∃ q, q = u / 3 := ⟨_, rfl⟩
                      obtain ⟨q2, hq2⟩ : ∃ q, q = q1 % 3 := ⟨_, rfl⟩
                      obtain ⟨v3, hv3⟩ : ∃ q, q = v2 / 12 := ⟨_, rfl⟩
                      have d1 : (u : Int).tdiv 3 = (q1 : Int) := by rw [Int.tdiv_eq_ediv_of_nonneg (by omega)]; omega
                      have d2 : (u : Int) / 3 = (q1 : Int) := by omega
                      have d3 : (q1 : Int).tmod 3 = (q2 : Int) := by rw [Int.tmod_eq_emod_of_nonneg (by omega)]; omega
                      have d4 : (q1 : Int) % 3 = (q2 : Int) := by omega
                      have d5 : IntKind.i64.wrap (q1 : Int) = (q1 : Int) := by rw [IntKind.wrap_i64]; omega
                      have d6 : IntKind.i64.wrap (q2 : Int) = (q2 : Int) := by rw [IntKind.wrap_i64]; omega
                      have d7 : IntKind.i64.wrap (1 + (q2 : Int)) = 1 + (q2 : Int) := by rw [IntKind.wrap_i64]; omega
                      have d8 : (v2 : Int).tdiv 12 = (v3 : Int) := by rw [Int.tdiv_eq_ediv_of_nonneg (by omega)]; omega
                      have d9 : (v2 : Int) / 12 = (v3 : Int) := by omega
                      have d10 : IntKind.i64.wrap (v3 : Int) = (v3 : Int) := by rw [IntKind.wrap_i64]; omega
                      have hv3' : v3 < 256 := by omega
                      have hnj : ∃ nm2, nm2 = rname jj ∧ ∀ wx, Calls Tryd.prog 16 #[.int .i64 jj] wx fun e w' => e = .returned (.string nm2) ∧ w' = wx := ⟨_, rfl, fun wx => name_any jj (by omega) wx⟩
                      obtain ⟨nm2, hnm2, hnj⟩ := hnj
                      have HNM2 := Lib.hid hnm2; have HNJ := Lib.hid hnj
                      have hm1 : ∃ m1, m1 = smapL (min s.maps.l.length 4) v2 ∧ ∀ wx, Calls Tryd.prog 23 #[.agg #[.int .u8 s.n, .slice s.links.A s.links.l.length s.links.cap, .slice s.maps.A s.maps.l.length s.maps.cap, .slice s.names.A s.names.l.length s.names.cap, .slice s.nets.A s.nets.l.length s.nets.cap, .slice s.ways.A s.ways.l.length s.ways.cap], .int .i64 v2] wx fun e w' => e = .returned (.string m1) ∧ Below wx.heap.size wx w' := ⟨_, rfl, fun wx => smap_any s v2 hv2 wx hl1⟩
                      obtain ⟨m1, hm1, hc1⟩ := hm1
                      have HM1 := Lib.hid hm1; have HC1 := Lib.hid hc1
                      have hm2 : ∃ m2, m2 = smapL (min s.maps.l.length 4) v3 ∧ ∀ wx, Calls Tryd.prog 23 #[.agg #[.int .u8 s.n, .slice s.links.A s.links.l.length s.links.cap, .slice s.maps.A s.maps.l.length s.maps.cap, .slice s.names.A s.names.l.length s.names.cap, .slice s.nets.A s.nets.l.length s.nets.cap, .slice s.ways.A s.ways.l.length s.ways.cap], .int .i64 v3] wx fun e w' => e = .returned (.string m2) ∧ Below wx.heap.size wx w' := ⟨_, rfl, fun wx => smap_any s v3 hv3' wx hl1⟩
                      obtain ⟨m2, hm2, hc2⟩ := hm2
                      have HM2 := Lib.hid hm2; have HC2 := Lib.hid hc2
                      have hn3 := number_any s.links I (by omega) w5.drew (HS5.out.below BD.out).links
                      rw [← HU.out] at hn3
                      have HN3 := Lib.hid hn3
                      have SD := Lib.hid (gb_blk BD.out S5.out (gb_lt S5.out))
                      have XD := Lib.hid (gb_blk BD.out X5.out (gb_lt X5.out))
                      obtain ⟨x0, x1, x2, x3, x4⟩ := gb_cells5 XD.out
                      have f2 := gb_free XD.out 2
                      have lr5 : rbx < w5.heap.size := gb_lt X5.out
                      have lsh : ¬ w.heap.size = rbx := by omega
                      have lsh2 : ¬ rbx = w.heap.size := by omega
                      clear hq1 hq2 hv3 hnm2 hnj hm1 hm2 hc1 hc2 hn3
                      refine wp_region_noPanic ?_
                      refine Mq.wp_region_T 20 (fun w' => (w'.cell? ⟨w.heap.size, 0, none⟩ = some (.int .u8 s.n) ∧ w'.cell? ⟨w.heap.size, 1, none⟩ = some (.slice s.links.A s.links.l.length s.links.cap) ∧ w'.cell? ⟨w.heap.size, 2, none⟩ = some (.slice s.maps.A s.maps.l.length s.maps.cap) ∧ w'.cell? ⟨w.heap.size, 3, none⟩ = some (.slice s.names.A s.names.l.length s.names.cap) ∧ w'.cell? ⟨w.heap.size, 4, none⟩ = some (.slice s.nets.A s.nets.l.length s.nets.cap) ∧ w'.cell? ⟨w.heap.size, 5, none⟩ = some (.slice s.ways.A s.ways.l.length s.ways.cap)) ∧ w'.cell? ⟨rbx, 2, none⟩ = some (.slice Al ls.length cl)) (by kernel_rfl) ?_ (fun hHeld => ?_)
                      · exact ⟨gb_cells6 SD.out, x2⟩
                      refine Mq.T_take 0 (v := ?_) rfl (by kernel_rfl) (by kernel_rfl) (by kernel_rfl) (by kernel_rfl) (by kernel_rfl) (by kernel_rfl) (by kernel_rfl) (fun _ _ _ h => h) (by rfl) hHeld ?_ ?_
                      rotate_left
                      · (intro w hSw; (try dsimp only at hSw); go_simp; (try with_reducible rfl))
                      try simp only [Act.put, List.setIfInBounds_toArray, List.set_cons_zero, List.set_cons_succ]
                      refine Mq.T_take 1 (v := ?_) rfl (by kernel_rfl) (by kernel_rfl) (by kernel_rfl) (by kernel_rfl) (by kernel_rfl) (by kernel_rfl) (by kernel_rfl) (fun _ _ _ h => h) (by rfl) hHeld ?_ ?_
                      rotate_left
                      · (intro w hSw; (try dsimp only at hSw); go_simp; (try with_reducible rfl))
                      try simp only [Act.put, List.setIfInBounds_toArray, List.set_cons_zero, List.set_cons_succ]
                      refine Mq.T_take 2 (v := ?_) rfl (by kernel_rfl) (by kernel_rfl) (by kernel_rfl) (by kernel_rfl) (by kernel_rfl) (by kernel_rfl) (by kernel_rfl) (fun _ _ _ h => h) (by rfl) hHeld ?_ ?_
                      rotate_left
                      · (intro w hSw; (try dsimp only at hSw); go_simp; (try with_reducible rfl))
                      try simp only [Act.put, List.setIfInBounds_toArray, List.set_cons_zero, List.set_cons_succ]
                      refine Mq.T_take 4 (v := ?_) rfl (by kernel_rfl) (by kernel_rfl) (by kernel_rfl) (by kernel_rfl) (by kernel_rfl) (by kernel_rfl) (by kernel_rfl) (fun _ _ _ h => h) (by rfl) hHeld ?_ ?_
                      rotate_left
                      · (intro w hSw; (try dsimp only at hSw); go_simp; (try with_reducible rfl))
                      try simp only [Act.put, List.setIfInBounds_toArray, List.set_cons_zero, List.set_cons_succ]
                      refine Mq.T_take 5 (v := ?_) rfl (by kernel_rfl) (by kernel_rfl) (by kernel_rfl) (by kernel_rfl) (by kernel_rfl) (by kernel_rfl) (by kernel_rfl) (fun _ _ _ h => h) (by rfl) hHeld ?_ ?_
                      rotate_left
                      · (intro w hSw; (try dsimp only at hSw); go_simp; (try with_reducible rfl))
                      try simp only [Act.put, List.setIfInBounds_toArray, List.set_cons_zero, List.set_cons_succ]
                      refine Mq.T_take 6 (v := ?_) rfl (by kernel_rfl) (by kernel_rfl) (by kernel_rfl) (by kernel_rfl) (by kernel_rfl) (by kernel_rfl) (by kernel_rfl) (fun _ _ _ h => h) (by rfl) hHeld ?_ ?_
                      rotate_left
                      · (intro w hSw; (try dsimp only at hSw); go_simp; (try with_reducible rfl))
                      try simp only [Act.put, List.setIfInBounds_toArray, List.set_cons_zero, List.set_cons_succ]
                      refine Mq.T_take 11 (v := ?_) rfl (by kernel_rfl) (by kernel_rfl) (by kernel_rfl) (by kernel_rfl) (by kernel_rfl) (by kernel_rfl) (by kernel_rfl) (fun _ _ _ h => h) (by rfl) hHeld ?_ ?_
                      rotate_left
                      · (intro w hSw; (try dsimp only at hSw); go_simp; (try with_reducible rfl))
                      try simp only [Act.put, List.setIfInBounds_toArray, List.set_cons_zero, List.set_cons_succ]
                      refine Mq.T_take 12 (v := ?_) rfl (by kernel_rfl) (by kernel_rfl) (by kernel_rfl) (by kernel_rfl) (by kernel_rfl) (by kernel_rfl) (by kernel_rfl) (fun _ _ _ h => h) (by rfl) hHeld ?_ ?_
                      rotate_left
                      · (intro w hSw; (try dsimp only at hSw); go_simp; (try with_reducible rfl))
                      try simp only [Act.put, List.setIfInBounds_toArray, List.set_cons_zero, List.set_cons_succ]
                      refine Mq.T_take 14 (v := ?_) rfl (by kernel_rfl) (by kernel_rfl) (by kernel_rfl) (by kernel_rfl) (by kernel_rfl) (by kernel_rfl) (by kernel_rfl) (fun _ _ _ h => h) (by rfl) hHeld ?_ ?_
                      rotate_left
                      · (intro w hSw; (try dsimp only at hSw); go_simp; (try with_reducible rfl))
                      try simp only [Act.put, List.setIfInBounds_toArray, List.set_cons_zero, List.set_cons_succ]
                      refine Mq.T_take 15 (v := ?_) rfl (by kernel_rfl) (by kernel_rfl) (by kernel_rfl) (by kernel_rfl) (by kernel_rfl) (by kernel_rfl) (by kernel_rfl) (fun _ _ _ h => h) (by rfl) hHeld ?_ ?_
                      rotate_left
                      · (intro w hSw; (try dsimp only at hSw); go_simp; (try with_reducible rfl))
                      try simp only [Act.put, List.setIfInBounds_toArray, List.set_cons_zero, List.set_cons_succ]
                      refine Mq.T_take 16 (v := ?_) rfl (by kernel_rfl) (by kernel_rfl) (by kernel_rfl) (by kernel_rfl) (by kernel_rfl) (by kernel_rfl) (by kernel_rfl) (fun _ _ _ h => h) (by rfl) hHeld ?_ ?_
                      rotate_left
                      · (intro w hSw; (try dsimp only at hSw); go_simp; (try with_reducible rfl))
                      try simp only [Act.put, List.setIfInBounds_toArray, List.set_cons_zero, List.set_cons_succ]
                      refine Mq.T_step 3 (by kernel_rfl) (by kernel_rfl) rfl (fun K hK => ?_)
                      go_simp
                      (with_reducible refine (HNJ.out _).mono ?_)
                      rintro en w8 ⟨rfl, hw8⟩
                      subst w8
                      try dsimp only
                      refine hK.out _ _ ?_ (fun hHeld2 => ?_)
                      · exact ⟨gb_cells6 SD.out, x2⟩
                      clear hK K hHeld
                      have hHeld := hHeld2
                      clear hHeld2
                      refine Mq.T_step 7 (by kernel_rfl) (by kernel_rfl) rfl (fun K hK => ?_)
                      go_simp
                      (with_reducible refine HN3.out.mono ?_)
                      rintro en w8 ⟨rfl, hw8⟩
                      subst w8
                      try dsimp only
                      refine hK.out _ _ ?_ (fun hHeld2 => ?_)
                      · exact ⟨gb_cells6 SD.out, x2⟩
                      clear hK K hHeld
                      have hHeld := hHeld2
                      clear hHeld2
                      refine Mq.T_take 8 (v := ?_) rfl (by kernel_rfl) (by kernel_rfl) (by kernel_rfl) (by kernel_rfl) (by kernel_rfl) (by kernel_rfl) (by kernel_rfl) (fun _ _ _ h => h) (by rfl) hHeld ?_ ?_
                      rotate_left
                      · (intro w hSw; (try dsimp only at hSw); go_simp; (try with_reducible rfl))
                      try simp only [Act.put, List.setIfInBounds_toArray, List.set_cons_zero, List.set_cons_succ]
                      refine Mq.T_take 9 (v := ?_) rfl (by kernel_rfl) (by kernel_rfl) (by kernel_rfl) (by kernel_rfl) (by kernel_rfl) (by kernel_rfl) (by kernel_rfl) (fun _ _ _ h => h) (by rfl) hHeld ?_ ?_
                      rotate_left
                      · (intro w hSw; (try dsimp only at hSw); go_simp; (try with_reducible rfl))
                      try simp only [Act.put, List.setIfInBounds_toArray, List.set_cons_zero, List.set_cons_succ]
                      refine Mq.T_take 10 (v := ?_) rfl (by kernel_rfl) (by kernel_rfl) (by kernel_rfl) (by kernel_rfl) (by kernel_rfl) (by kernel_rfl) (by kernel_rfl) (fun _ _ _ h => h) (by rfl) hHeld ?_ ?_
                      rotate_left
                      · (intro w hSw; (try dsimp only at hSw); go_simp; (try with_reducible rfl))
                      try simp only [Act.put, List.setIfInBounds_toArray, List.set_cons_zero, List.set_cons_succ]
                      refine Mq.T_step 13 (by kernel_rfl) (by kernel_rfl) rfl (fun K hK => ?_)
                      go_simp
                      (with_reducible refine (HC1.out _).mono ?_)
                      rintro en w8 ⟨rfl, hb8⟩
                      have B8 := Lib.hid (gb_trans BD.out hb8)
                      have S8 := Lib.hid (gb_blk B8.out S5.out (gb_lt S5.out))
                      have X8 := Lib.hid (gb_blk B8.out X5.out (gb_lt X5.out))
                      obtain ⟨x0, x1, x2, x3, x4⟩ := gb_cells5 X8.out
                      clear hb8
                      try dsimp only
                      refine hK.out _ _ ?_ (fun hHeld2 => ?_)
                      · exact ⟨gb_cells6 S8.out, x2⟩
                      clear hK K hHeld
                      have hHeld := hHeld2
                      clear hHeld2
                      refine Mq.T_step 17 (by kernel_rfl) (by kernel_rfl) rfl (fun K hK => ?_)
                      go_simp
                      (with_reducible refine (HC2.out _).mono ?_)
                      rintro en w9 ⟨rfl, hb9⟩
                      have B9 := Lib.hid (gb_trans B8.out hb9)
                      have S9 := Lib.hid (gb_blk B9.out S5.out (gb_lt S5.out))
                      have X9 := Lib.hid (gb_blk B9.out X5.out (gb_lt X5.out))
                      obtain ⟨x0, x1, x2, x3, x4⟩ := gb_cells5 X9.out
                      have O9l := Lib.hid (ow_below HOL5.out B9.out)
                      have O9n := Lib.hid (ow_below HON5.out B9.out)
                      have l9 := gb_lt X9.out
                      have z9 := B9.out.size
                      clear hb9 d1 d2 d3 d4 d5 d6 d7 d8 d9 d10
                      try dsimp only
                      refine hK.out _ _ ?_ (fun hHeld2 => ?_)
                      · exact ⟨gb_cells6 S9.out, x2⟩
                      clear hK K hHeld
                      have hHeld := hHeld2
                      clear hHeld2
                      refine Mq.T_take 18 (v := ?_) rfl (by kernel_rfl) (by kernel_rfl) (by kernel_rfl) (by kernel_rfl) (by kernel_rfl) (by kernel_rfl) (by kernel_rfl) (fun _ _ _ h => h) (by rfl) hHeld ?_ ?_
                      rotate_left
                      · (intro w hSw; (try dsimp only at hSw); go_simp; (try with_reducible rfl))
                      try simp only [Act.put, List.setIfInBounds_toArray, List.set_cons_zero, List.set_cons_succ]
                      refine Mq.T_step 19 (by kernel_rfl) (by kernel_rfl) rfl (fun K hK => ?_)
                      go_simp
                      refine hK.out _ _ ?_ (fun hHeld2 => ?_)
                      · exact ⟨gb_cells6 (gb_old _ _ S9.out), (World.cell?_alloc_some _ _ _ (by rw [x2]; rfl)).trans x2⟩
                      clear hK K hHeld
                      have hHeld := hHeld2
                      clear hHeld2
                      refine Mq.T_last (by kernel_rfl) rfl (fun K hK => ?_)
                      refine step_append_lies _ (by rfl) _ _ _ (by rfl) (rbx + 1) 50 il _ 5 64 Tryd.underlying45 IL.out IL0.out IL1.out IL2.out rfl (by omega) (.slice Al ls.length cl) ls.length (ls.flatMap lkc) (by rfl) (ow_alloc O9l.out _) ⟨w9.heap.size, 0, none⟩ 1 1 [.string nm2, .int .i64 (1 + (q2 : Int)), .string m1, .string m2, .int .i64 0] (by rfl) (by rfl) (World.news_of_block (cs := ([.string nm2, .int .i64 (1 + (q2 : Int)), .string m1, .string m2, .int .i64 0]).toArray) (heap_alloc_new w9 _)) (by intro u hu; simp at hu; rcases hu with rfl | rfl | rfl | rfl | rfl <;> rfl) (by omega) (by unfold maxLen; omega) (by omega) (by simp; omega) (w9.heap.size + 1) (by simp) ?_
                      intro g cap' w7 hown7 hgrow hat hlt7
                      have O7 := Lib.hid hown7
                      have G7 := Lib.hid hgrow
                      have X7 := Lib.hid (blk_grown (gb_old w9 _ X9.out) (ow_alloc O9l.out _) (by decide) hgrow)
                      obtain ⟨x0, x1, x2, x3, x4⟩ := gb_cells5 X7.out
                      have f2 := gb_free X7.out 2
                      have O7n := Lib.hid (own_grown (ow_alloc O9n.out _) (ow_alloc O9l.out _) (by decide) hgrow)
                      have l7 := gb_lt X7.out
                      clear hown7 hgrow hat hlt7
                      refine hK.out _ _ ?_
                      clear hK K hHeld
                      try simp only [Act.put, List.setIfInBounds_toArray, List.set_cons_zero, List.set_cons_succ]
                      refine Mq.A_take 21 (v := ?_) rfl (by kernel_rfl) (by kernel_rfl) (by kernel_rfl) (fun _ _ _ h => h) (by rfl) ?_ ?_
                      rotate_left
                      · (intro w; go_simp; (try with_reducible rfl))
                      try simp only [Act.put, List.setIfInBounds_toArray, List.set_cons_zero, List.set_cons_succ]
                      refine Mq.A_step 22 (by kernel_rfl) rfl (fun K hK => ?_)
                      go_simp
                      refine hK.out _ _ ?_
                      clear hK K
                      refine wpAny_done (by kernel_rfl) ?_ _
                      refine NoPanic.normal ?_
                      all_goals
                        go_wp2_with fail
                        go_roundw
                        case measure => simp [intOf] <;> omega
                        case rel =>
                          have o7 := O7.out
                          have o8 := own_store (own_snoc (enc := lkc) (a := (⟨nm2, 1 + (q2 : Int), m1, m2, 0⟩ : LkV)) o7) X7.out (by decide) 2 (.slice (some ⟨g, 0, none⟩) (ls.length + 1) cap')
                          have hb7 := ow_grown (gb_alloc (gb_trans HB5.out B9.out) _) G7.out (own_le O9l.out (show w2.heap.size ≤ rbx + 1 by rw [HRBX.out]; omega)) (by have := HB5.out.size; have := B9.out.size; simp; omega)
                          have x7 := gb_set X7.out 2 (.slice (some ⟨g, 0, none⟩) (ls.length + 1) cap')
                          refine ⟨jj + 1, ls ++ [⟨nm2, 1 + (q2 : Int), m1, m2, 0⟩], some ⟨g, 0, none⟩, cap', by go_num, by omega, Lib.hid (by simp; omega), Lib.hid (by rw [peersL_succ, HCB.out, if_pos rfl, ← HPE.out]; simp [HNM2.out]), Lib.hid ?_, Lib.hid (by simpa using x7), Lib.hid (own_store O7n.out X7.out (by decide) 2 _), Lib.hid o8, Lib.hid (Below.setCell hb7 (by rw [HRBX.out]; exact Nat.le_refl _) _)⟩
                          intro x hx
                          rcases List.mem_append.1 hx with hx | hx
                          · exact HMO.out x hx
                          · rw [List.mem_singleton.1 hx]; exact ⟨⟨v2, HM1.out⟩, ⟨v3, HM2.out⟩⟩
                · obtain rfl : n = jj := by omega
                  obtain ⟨w6, hw6⟩ : ∃ W2, W2 = w5 := ⟨_, rfl⟩
                  subst hw6
                  have hll2 : ls.length ≤ 7 := by omega
                  obtain ⟨s0, s1, s2, s3, s4, s5⟩ := gb_cells6 S5.out
                  go_upto_region 24 with (first | (go_at_call 21; (with_reducible refine (number_any s.ways k (by omega) _ HS5.out.ways).mono ?_); rintro en w8 ⟨rfl, hw8⟩; subst w8) | fail)
                  clear s0 s1 s2 s3 s4 s5
                  have hv4 := HWY.out k
                  generalize numL s.ways.l k = v4 at *
                  go_cut [148] (fun g wx => (∃ bb : Bool, g = .bool bb ∧ Hid (bb = true → 0 < ls.length)) ∧ wx = w6)
                  case first =>
                    obtain ⟨x0, x1, x2, x3, x4⟩ := gb_cells5 X5.out
                    by_cases h5 : v4 % 5 = 4
                    · have g5 : ((v4 : Int) % 5 == 4) = true := by simp; omega
                      clear h5
                      by_cases hl0 : 0 < ls.length
                      · have g6 : decide ((0 : Int) < (ls.length : Int)) = true := by rw [decide_eq_true_iff]; omega
                        have HL0 := Lib.hid hl0
                        go_wp2_with fail
                        go_meet
                        exact ⟨⟨true, by first | rfl | (rw [g5, g6]; rfl) | simp [g5, g6], Lib.hid (fun _ => HL0.out)⟩, rfl⟩
                      · have g6 : decide ((0 : Int) < (ls.length : Int)) = false := by rw [decide_eq_false_iff_not]; omega
                        have HNIL := Lib.hid (List.length_eq_zero_iff.1 (show ls.length = 0 by omega))
                        clear hl0
                        go_wp2_with fail
                        go_meet
                        exact ⟨⟨false, by first | rfl | (simp [HNIL.out]; done) | (rw [g5, g6]; rfl) | (rw [g5]; rfl) | simp [*], Lib.hid (fun h => by cases h)⟩, rfl⟩
                    · have g5 : ((v4 : Int) % 5 == 4) = false := by simp; omega
                      clear h5
                      go_wp2_with fail
                      go_meet
                      exact ⟨⟨false, by first | rfl | (rw [g5, g6]; rfl) | (rw [g5]; rfl) | simp [*], Lib.hid (fun h => by cases h)⟩, rfl⟩
                  case rest =>
                    obtain ⟨⟨bb, rfl, HBB⟩, hwc⟩ := hcut
                    subst wc
                    go_upto_if 148 with (fail)
                    go_cut [13] (fun g wx => g = .int .i64 v4 ∧ ∃ (As : Option Addr) (cs : Nat) (sl : List StV), Hid (sl = [] ∨ ∃ x, sl = [x] ∧ ∃ y ∈ ls, x.via = y.peer) ∧ Hid (sl.length ≤ 1) ∧ Hid (wx.heap[rbx]? = some (.cells #[.string nm, .slice An nl.length cn, .slice Al ls.length cl, .slice As sl.length cs, .int .i64 0] 48)) ∧ Hid (wx.ownsRow (rbx + 1) 66 2 (.slice An nl.length cn) nl.length (nl.flatMap pfc)) ∧ Hid (wx.ownsRow (rbx + 1) 50 5 (.slice Al ls.length cl) ls.length (ls.flatMap lkc)) ∧ Hid (wx.ownsRow (rbx + 1) 70 4 (.slice As sl.length cs) sl.length (sl.flatMap stc)) ∧ Hid (Below w2.heap.size w2 wx))
                    case first =>
                      cases bb
                      · go_wp2_with fail
                        go_meet
                        exact ⟨rfl, none, 0, [], Lib.hid (.inl rfl), Lib.hid (by simp), X5, HON5, HOL5, Lib.hid (World.ownsRow_nil _ _ _ _), HB5⟩
                      · skip
                        have hl0 := HBB.out rfl
                        have BD := Lib.hid ((Below.refl w6.heap.size w6).drew)
                        have e8 : IntKind.u8.wrap (v4 : Int) = (v4 : Int) := by simp [IntKind.wrap, IntKind.bits, IntKind.signed]; omega
                        obtain ⟨q, hq⟩ : ∃ q, q = v4 / 8 := ⟨_, rfl⟩
                        obtain ⟨i, hi⟩ : ∃ i, i = q % ls.length := ⟨_, rfl⟩
                        have hil : i < ls.length := by rw [hi]; exact Nat.mod_lt _ hl0
                        obtain ⟨y, hy⟩ : ∃ y, ls[i]? = some y := ⟨_, List.getElem?_eq_getElem hil⟩
                        have d1 : (v4 : Int).tdiv 8 = (q : Int) := by rw [Int.tdiv_eq_ediv_of_nonneg (by omega)]; omega
                        have d2 : (v4 : Int) / 8 = (q : Int) := by omega
                        have d3 : (q : Int).tmod (ls.length : Int) = (i : Int) := by rw [Int.tmod_eq_emod_of_nonneg (by omega), hi]; simp
                        have d4 : (q : Int) % (ls.length : Int) = (i : Int) := by rw [hi]; simp
                        have d5 : IntKind.i64.wrap (q : Int) = (q : Int) := by rw [IntKind.wrap_i64]; omega
                        have d6 : IntKind.i64.wrap (i : Int) = (i : Int) := by rw [IntKind.wrap_i64]; omega
                        have d7 : ¬ (ls.length : Int) = 0 := by omega
                        have d11 : ¬ ls = [] := by intro h; rw [h] at hl0; simp at hl0
                        have d8 : ((ls.length : Int) == 0) = false := by rw [beq_eq_false_iff_ne]; omega
                        have i0 : (0 : Int) ≤ (i : Int) := by omega
                        have i1 : (i : Int) < (ls.length : Int) := by omega
                        obtain ⟨bl, ol, hAl, hbl, hcl⟩ := sli_atE (own_slok (Ok := fun _ _ => True) HOL5.out lkc_len (by omega) (fun _ _ => trivial)).at_ (by omega)
                        simp only at hAl
                        subst hAl
                        have HCL := Lib.hid hcl
                        have HIL := Lib.hid hil
                        have HY := Lib.hid hy
                        have hmk : ∃ pv : Pfx, ∀ w, Calls Tryd.prog 22 #[.int .u8 v4] w fun e w' => e = .returned (.agg #[.int .u32 pv.addr, .int .i64 pv.bits]) ∧ Below w.heap.size w w' := ⟨mkP v4, fun w => make_any v4 hv4 w⟩
                        obtain ⟨pv, hmk⟩ := hmk
                        have HMK := Lib.hid hmk
                        have yD := HCL.out _ BD.out i y hy
                        have XD := Lib.hid (gb_blk BD.out X5.out (gb_lt X5.out))
                        obtain ⟨x0, x1, x2, x3, x4⟩ := gb_cells5 XD.out
                        have f3 := gb_free XD.out 3
                        have lr5 : rbx < w6.heap.size := gb_lt X5.out
                        have nbl : ¬ bl = rbx := by
                          intro h
                          subst h
                          exact own_ne_blk HOL5.out X5.out (by decide) rfl
                        have nbl2 : ¬ rbx = bl := fun h => nbl h.symm
                        clear hq hi hy hmk hcl hl0 hil
                        go_upto_region 25 with fail
                        refine wp_region_noPanic ?_
                        refine Mq.wp_region_T 18 (fun w' => w'.cell? ⟨rbx, 2, none⟩ = some (.slice (some ⟨bl, ol, none⟩) ls.length cl) ∧ w'.cell? ⟨bl, ol + i * 5, none⟩ = some (.string y.peer) ∧ w'.cell? ⟨rbx, 3, none⟩ = some (.slice none 0 0)) (by kernel_rfl) ?_ (fun hHeld => ?_)
                        · exact ⟨x2, yD, x3⟩
                        refine Mq.T_take 0 (v := ?_) rfl (by kernel_rfl) (by kernel_rfl) (by kernel_rfl) (by kernel_rfl) (by kernel_rfl) (by kernel_rfl) (by kernel_rfl) (fun _ _ _ h => h) (by rfl) hHeld ?_ ?_
                        rotate_left
                        · (intro w hSw; (try dsimp only at hSw); go_simp; (try with_reducible rfl))
                        try simp only [Act.put, List.setIfInBounds_toArray, List.set_cons_zero, List.set_cons_succ]
                        refine Mq.T_take 1 (v := ?_) rfl (by kernel_rfl) (by kernel_rfl) (by kernel_rfl) (by kernel_rfl) (by kernel_rfl) (by kernel_rfl) (by kernel_rfl) (fun _ _ _ h => h) (by rfl) hHeld ?_ ?_
                        rotate_left
                        · (intro w hSw; (try dsimp only at hSw); go_simp; (try with_reducible rfl))
                        try simp only [Act.put, List.setIfInBounds_toArray, List.set_cons_zero, List.set_cons_succ]
                        refine Mq.T_take 2 (v := ?_) rfl (by kernel_rfl) (by kernel_rfl) (by kernel_rfl) (by kernel_rfl) (by kernel_rfl) (by kernel_rfl) (by kernel_rfl) (fun _ _ _ h => h) (by rfl) hHeld ?_ ?_
                        rotate_left
                        · (intro w hSw; (try dsimp only at hSw); go_simp; (try with_reducible rfl))
                        try simp only [Act.put, List.setIfInBounds_toArray, List.set_cons_zero, List.set_cons_succ]
                        refine Mq.T_take 3 (v := ?_) rfl (by kernel_rfl) (by kernel_rfl) (by kernel_rfl) (by kernel_rfl) (by kernel_rfl) (by kernel_rfl) (by kernel_rfl) (fun _ _ _ h => h) (by rfl) hHeld ?_ ?_
                        rotate_left
                        · (intro w hSw; (try dsimp only at hSw); go_simp; (try with_reducible rfl))
                        try simp only [Act.put, List.setIfInBounds_toArray, List.set_cons_zero, List.set_cons_succ]
                        refine Mq.T_take 5 (v := ?_) rfl (by kernel_rfl) (by kernel_rfl) (by kernel_rfl) (by kernel_rfl) (by kernel_rfl) (by kernel_rfl) (by kernel_rfl) (fun _ _ _ h => h) (by rfl) hHeld ?_ ?_
                        rotate_left
                        · (intro w hSw; (try dsimp only at hSw); go_simp; (try with_reducible rfl))
                        try simp only [Act.put, List.setIfInBounds_toArray, List.set_cons_zero, List.set_cons_succ]
                        refine Mq.T_take 6 (v := ?_) rfl (by kernel_rfl) (by kernel_rfl) (by kernel_rfl) (by kernel_rfl) (by kernel_rfl) (by kernel_rfl) (by kernel_rfl) (fun _ _ _ h => h) (by rfl) hHeld ?_ ?_
                        rotate_left
                        · (intro w hSw; (try dsimp only at hSw); go_simp; (try with_reducible rfl))
                        try simp only [Act.put, List.setIfInBounds_toArray, List.set_cons_zero, List.set_cons_succ]
                        refine Mq.T_take 7 (v := ?_) rfl (by kernel_rfl) (by kernel_rfl) (by kernel_rfl) (by kernel_rfl) (by kernel_rfl) (by kernel_rfl) (by kernel_rfl) (fun _ _ _ h => h) (by rfl) hHeld ?_ ?_
                        rotate_left
                        · (intro w hSw; (try dsimp only at hSw); go_simp; (try with_reducible rfl))
                        try simp only [Act.put, List.setIfInBounds_toArray, List.set_cons_zero, List.set_cons_succ]
                        refine Mq.T_take 8 (v := ?_) rfl (by kernel_rfl) (by kernel_rfl) (by kernel_rfl) (by kernel_rfl) (by kernel_rfl) (by kernel_rfl) (by kernel_rfl) (fun _ _ _ h => h) (by rfl) hHeld ?_ ?_
                        rotate_left
                        · (intro w hSw; (try dsimp only at hSw); go_simp; (try with_reducible rfl))
                        try simp only [Act.put, List.setIfInBounds_toArray, List.set_cons_zero, List.set_cons_succ]
                        refine Mq.T_take 9 (v := ?_) rfl (by kernel_rfl) (by kernel_rfl) (by kernel_rfl) (by kernel_rfl) (by kernel_rfl) (by kernel_rfl) (by kernel_rfl) (fun _ _ _ h => h) (by rfl) hHeld ?_ ?_
                        rotate_left
                        · (intro w hSw; (try dsimp only at hSw); go_simp; (try with_reducible rfl))
                        try simp only [Act.put, List.setIfInBounds_toArray, List.set_cons_zero, List.set_cons_succ]
                        refine Mq.T_take 10 (v := ?_) rfl (by kernel_rfl) (by kernel_rfl) (by kernel_rfl) (by kernel_rfl) (by kernel_rfl) (by kernel_rfl) (by kernel_rfl) (fun _ _ _ h => h) (by rfl) hHeld ?_ ?_
                        rotate_left
                        · (intro w hSw; (try dsimp only at hSw); go_simp; (try with_reducible rfl))
                        try simp only [Act.put, List.setIfInBounds_toArray, List.set_cons_zero, List.set_cons_succ]
                        refine Mq.T_take 11 (v := ?_) rfl (by kernel_rfl) (by kernel_rfl) (by kernel_rfl) (by kernel_rfl) (by kernel_rfl) (by kernel_rfl) (by kernel_rfl) (fun _ _ _ h => h) (by rfl) hHeld ?_ ?_
                        rotate_left
                        · (intro w hSw; (try dsimp only at hSw); go_simp; (try with_reducible rfl))
                        try simp only [Act.put, List.setIfInBounds_toArray, List.set_cons_zero, List.set_cons_succ]
                        refine Mq.T_take 12 (v := ?_) rfl (by kernel_rfl) (by kernel_rfl) (by kernel_rfl) (by kernel_rfl) (by kernel_rfl) (by kernel_rfl) (by kernel_rfl) (fun _ _ _ h => h) (by rfl) hHeld ?_ ?_
                        rotate_left
                        · (intro w hSw; (try dsimp only at hSw); go_simp; (try with_reducible rfl))
                        try simp only [Act.put, List.setIfInBounds_toArray, List.set_cons_zero, List.set_cons_succ]
                        refine Mq.T_take 13 (v := ?_) rfl (by kernel_rfl) (by kernel_rfl) (by kernel_rfl) (by kernel_rfl) (by kernel_rfl) (by kernel_rfl) (by kernel_rfl) (fun _ _ _ h => h) (by rfl) hHeld ?_ ?_
                        rotate_left
                        · (intro w hSw; (try dsimp only at hSw); go_simp; (try with_reducible rfl))
                        try simp only [Act.put, List.setIfInBounds_toArray, List.set_cons_zero, List.set_cons_succ]
                        refine Mq.T_take 14 (v := ?_) rfl (by kernel_rfl) (by kernel_rfl) (by kernel_rfl) (by kernel_rfl) (by kernel_rfl) (by kernel_rfl) (by kernel_rfl) (fun _ _ _ h => h) (by rfl) hHeld ?_ ?_
                        rotate_left
                        · (intro w hSw; (try dsimp only at hSw); go_simp; (try with_reducible rfl))
                        try simp only [Act.put, List.setIfInBounds_toArray, List.set_cons_zero, List.set_cons_succ]
                        refine Mq.T_take 15 (v := ?_) rfl (by kernel_rfl) (by kernel_rfl) (by kernel_rfl) (by kernel_rfl) (by kernel_rfl) (by kernel_rfl) (by kernel_rfl) (fun _ _ _ h => h) (by rfl) hHeld ?_ ?_
                        rotate_left
                        · (intro w hSw; (try dsimp only at hSw); go_simp; (try with_reducible rfl))
                        try simp only [Act.put, List.setIfInBounds_toArray, List.set_cons_zero, List.set_cons_succ]
                        refine Mq.T_step 4 (by kernel_rfl) (by kernel_rfl) rfl (fun K hK => ?_)
                        go_simp
                        (with_reducible refine (HMK.out _).mono ?_)
                        rintro en w8 ⟨rfl, hb8⟩
                        clear e8 d1 d2 d3 d4 d5 d6 d7 d8 d11
                        have B8 := Lib.hid (gb_trans BD.out hb8)
                        have X8 := Lib.hid (gb_blk B8.out X5.out (gb_lt X5.out))
                        obtain ⟨x0, x1, x2, x3, x4⟩ := gb_cells5 X8.out
                        have yD := HCL.out _ B8.out i y HY.out
                        have O8l := Lib.hid (ow_below HOL5.out B8.out)
                        have O8n := Lib.hid (ow_below HON5.out B8.out)
                        have l8 := gb_lt X8.out
                        have z8 := B8.out.size
                        clear hb8
                        try dsimp only
                        refine hK.out _ _ ?_ (fun hHeld2 => ?_)
                        · exact ⟨x2, yD, x3⟩
                        clear hK K hHeld
                        have hHeld := hHeld2
                        clear hHeld2
                        refine Mq.T_take 16 (v := ?_) rfl (by kernel_rfl) (by kernel_rfl) (by kernel_rfl) (by kernel_rfl) (by kernel_rfl) (by kernel_rfl) (by kernel_rfl) (fun _ _ _ h => h) (by rfl) hHeld ?_ ?_
                        rotate_left
                        · (intro w hSw; (try dsimp only at hSw); go_simp; (try with_reducible rfl))
                        try simp only [Act.put, List.setIfInBounds_toArray, List.set_cons_zero, List.set_cons_succ]
                        refine Mq.T_step 17 (by kernel_rfl) (by kernel_rfl) rfl (fun K hK => ?_)
                        go_simp
                        refine hK.out _ _ ?_ (fun hHeld2 => ?_)
                        · exact ⟨(World.cell?_alloc_some _ _ _ (by rw [x2]; rfl)).trans x2, (World.cell?_alloc_some _ _ _ (by rw [yD]; rfl)).trans yD, (World.cell?_alloc_some _ _ _ (by rw [x3]; rfl)).trans x3⟩
                        clear hK K hHeld
                        have hHeld := hHeld2
                        clear hHeld2
                        refine Mq.T_last (by kernel_rfl) rfl (fun K hK => ?_)
                        refine step_append_lies _ (by rfl) _ _ _ (by rfl) (rbx + 1) 70 is _ 4 40 Tryd.underlying46 IS.out IS0.out IS1.out IS2.out rfl (by omega) (.slice none 0 0) 0 [] (by rfl) (World.ownsRow_nil _ _ _ _) ⟨w8.heap.size, 0, none⟩ 1 1 [.int .u32 pv.addr, .int .i64 pv.bits, .string y.peer, .int .i64 0] (by rfl) (by rfl) (World.news_of_block (cs := ([.int .u32 pv.addr, .int .i64 pv.bits, .string y.peer, .int .i64 0]).toArray) (heap_alloc_new w8 _)) (by intro u hu; simp at hu; rcases hu with rfl | rfl | rfl | rfl <;> rfl) (by omega) (by unfold maxLen; omega) (by omega) (by simp; omega) (w8.heap.size + 1) (by simp) ?_
                        intro g cap' w7 hown7 hgrow hat hlt7
                        have O7 := Lib.hid hown7
                        have G7 := Lib.hid hgrow
                        have X7 := Lib.hid (blk_grown (gb_old w8 _ X8.out) (World.ownsRow_nil _ (rbx + 1) 70 4) (by decide) hgrow)
                        obtain ⟨x0, x1, x2, x3, x4⟩ := gb_cells5 X7.out
                        have f3 := gb_free X7.out 3
                        have O7n := Lib.hid (own_grown (ow_alloc O8n.out _) (World.ownsRow_nil _ (rbx + 1) 70 4) (by decide) hgrow)
                        have O7l := Lib.hid (own_grown (ow_alloc O8l.out _) (World.ownsRow_nil _ (rbx + 1) 70 4) (by decide) hgrow)
                        have l7 := gb_lt X7.out
                        clear hown7 hgrow hat hlt7
                        refine hK.out _ _ ?_
                        clear hK K hHeld
                        try simp only [Act.put, List.setIfInBounds_toArray, List.set_cons_zero, List.set_cons_succ]
                        refine Mq.A_take 19 (v := ?_) rfl (by kernel_rfl) (by kernel_rfl) (by kernel_rfl) (fun _ _ _ h => h) (by rfl) ?_ ?_
                        rotate_left
                        · (intro w; go_simp; (try with_reducible rfl))
                        try simp only [Act.put, List.setIfInBounds_toArray, List.set_cons_zero, List.set_cons_succ]
                        refine Mq.A_step 20 (by kernel_rfl) rfl (fun K hK => ?_)
                        go_simp
                        refine hK.out _ _ ?_
                        clear hK K
                        refine wpAny_done (by kernel_rfl) ?_ _
                        refine NoPanic.normal ?_
                        all_goals
                          go_wp2_with fail
                          go_meet
                          have o8 := own_store (own_snoc (enc := stc) (a := (⟨pv, y.peer, 0⟩ : StV)) (l := []) O7.out) X7.out (by decide) 3 (.slice (some ⟨g, 0, none⟩) 1 cap')
                          have hb8 := ow_grown (gb_alloc (gb_trans HB5.out B8.out) _) G7.out (World.ownsRow_nil w8 w2.heap.size 70 4) (by have := HB5.out.size; have := B8.out.size; simp; omega)
                          refine ⟨rfl, some ⟨g, 0, none⟩, cap', [⟨pv, y.peer, 0⟩], Lib.hid (.inr ⟨_, rfl, y, List.mem_of_getElem? HY.out, rfl⟩), Lib.hid (by simp), Lib.hid (by simpa using gb_set X7.out 3 (.slice (some ⟨g, 0, none⟩) 1 cap')), Lib.hid (own_store O7n.out X7.out (by decide) 3 _), Lib.hid (own_store O7l.out X7.out (by decide) 3 _), Lib.hid o8, Lib.hid (Below.setCell hb8 (by rw [HRBX.out]; exact Nat.le_refl _) _)⟩
                    case rest =>
                      obtain ⟨rfl, As, cs, sl, HST, HSL, X6, HON6, HOL6, HOS6, HB6⟩ := hcut
                      have O6 := Lib.hid (ow_below HOR.out HB6.out)
                      have M6 := Lib.hid (ow_below HOM.out HB6.out)
                      have TB := Lib.hid (gb_blk HB6.out T2.out (gb_lt T2.out))
                      have S6 := Lib.hid (gb_blk HB6.out T0.out (gb_lt T0.out))
                      have R6 := Lib.hid (gb_blk HB6.out T1.out (gb_lt T1.out))
                      have hsl := HSL.out
                      have hnl := HNL.out
                      have lcb : w.heap.size + 1 + 1 < wc.heap.size := gb_lt TB.out
                      have lB0 : B0 ≤ wc.heap.size := Nat.le_trans HW.out HB6.out.size
                      obtain ⟨q0, q1⟩ := gb_cells2 TB.out
                      obtain ⟨x0, x1, x2, x3, x4⟩ := gb_cells5 X6.out
                      have fq := gb_free TB.out 1
                      go_wp2_with (first
                        | (at_builtin; refine wpList_append_lies _ rfl _ _ _ rfl B0 48 ir _ 5 96 Tryd.underlying31 IR.out IR0.out IR1.out IR2.out rfl (by omega) (.slice Ar rs.length cr) rs.length (rs.flatMap rtc) rfl (ow_alloc O6.out _) ⟨wc.heap.size, 0, none⟩ 1 1 [.string nm, .slice An nl.length cn, .slice Al ls.length cl, .slice As sl.length cs, .int .i64 0] rfl rfl (World.news_of_block (cs := ([.string nm, .slice An nl.length cn, .slice Al ls.length cl, .slice As sl.length cs, .int .i64 0]).toArray) (heap_alloc_new wc _)) (by intro u hu; simp at hu; rcases hu with rfl | rfl | rfl | rfl | rfl <;> rfl) (by omega) (by unfold maxLen; omega) (by omega) (by simp; omega) (wc.heap.size + 1) (by simp) ?_; intro g cap' w9 hown9 hgrow hat hlt9; have O9 := Lib.hid hown9; have G9 := Lib.hid hgrow; have HAT := Lib.hid hat; have T9 := Lib.hid (blk_grown (gb_old wc _ TB.out) (ow_alloc O6.out _) (by decide) hgrow); obtain ⟨q0, q1⟩ := gb_cells2 T9.out; have fq := gb_free T9.out 1; have l9 := gb_lt T9.out; clear hown9 hgrow hat hlt9)
                        | fail)
                      clear q0 q1 x0 x1 x2 x3 x4 fq
                      go_roundw
                      case measure => simp [intOf] <;> omega
                      case rel =>
                        have hu : [.string nm, .slice An nl.length cn, .slice Al ls.length cl, .slice As sl.length cs, .int .i64 0] = rtc (⟨nm, ⟨An, cn, nl⟩, ⟨Al, cl, ls⟩, ⟨As, cs, sl⟩, 0⟩ : RtV) := rfl
                        have g9 := G9.out
                        have hz9 := g9.size
                        simp only [World.size_alloc] at hz9
                        have n9 := own_grown (ow_alloc HON6.out _) (ow_alloc O6.out _) (by decide) g9
                        have k9 := own_grown (ow_alloc HOL6.out _) (ow_alloc O6.out _) (by decide) g9
                        have s9 := own_grown (ow_alloc HOS6.out _) (ow_alloc O6.out _) (by decide) g9
                        have m9 := own_grown (ow_alloc M6.out _) (ow_alloc O6.out _) (by decide) g9
                        have n10 := own_store n9 T9.out (by decide) 1 (.slice (some ⟨g, 0, none⟩) (rs.length + 1) cap')
                        have k10 := own_store k9 T9.out (by decide) 1 (.slice (some ⟨g, 0, none⟩) (rs.length + 1) cap')
                        have s10 := own_store s9 T9.out (by decide) 1 (.slice (some ⟨g, 0, none⟩) (rs.length + 1) cap')
                        have m10 := own_store m9 T9.out (by decide) 1 (.slice (some ⟨g, 0, none⟩) (rs.length + 1) cap')
                        have o9 := O9.out
                        rw [hu] at o9
                        have o10 := own_store (own_snoc (enc := rtc) o9) T9.out (by decide) 1 (.slice (some ⟨g, 0, none⟩) (rs.length + 1) cap')
                        have hb9 := ow_grown (gb_alloc (gb_trans HB.out HB6.out) _) g9 (own_le O6.out (show w.heap.size ≤ B0 by omega)) (by have := HB.out.size; have := HB6.out.size; simp; omega)
                        have hrb : B0 ≤ rbx + 1 := by have := HW.out; rw [HRBX.out]; omega
                        have hkx : KeepX (fun b => B0 ≤ b ∧ (Value.slice Ar rs.length cr).ownBlock ≠ some b) w2 (w9.setCell ⟨w.heap.size + 1 + 1, 1, none⟩ (.slice (some ⟨g, 0, none⟩) (rs.length + 1) cap')) := by
                          have h6 := HB6.out.size
                          refine ⟨by simp; omega, fun b hb hX => ?_⟩
                          rw [Below.heap_setCell _ _ _ _ (by simp; omega), g9.block b (by simp; omega) (Ne.symm hX.2), Below.heap_alloc _ _ _ (by omega)]
                          exact HB6.out.block b hb
                        refine ⟨k + 1, rs ++ [⟨nm, ⟨An, cn, nl⟩, ⟨Al, cl, ls⟩, ⟨As, cs, sl⟩, 0⟩], some ⟨g, 0, none⟩, cap', by go_num, by omega, Lib.hid (by simp [HRL.out]), Lib.hid ?_, Lib.hid ?_, Lib.hid o10, Lib.hid m10, Lib.hid (by simpa using gb_set T9.out 1 (.slice (some ⟨g, 0, none⟩) (rs.length + 1) cap')), Lib.hid (gb_far (blk_grown (gb_old wc _ S6.out) (ow_alloc O6.out _) (by decide) g9) (by first | omega | (simp <;> omega)) _), Lib.hid (gb_far (blk_grown (gb_old wc _ R6.out) (ow_alloc O6.out _) (by decide) g9) (by first | omega | (simp <;> omega)) _), Lib.hid (Below.setCell hb9 (by simp; omega) _), Lib.hid (by simp; omega)⟩
                        · intro i u hi
                          by_cases h : i < rs.length
                          · rw [List.getElem?_append_left h] at hi
                            exact HSP.out i u hi
                          · have hil : i < (rs ++ [(⟨nm, ⟨An, cn, nl⟩, ⟨Al, cl, ls⟩, ⟨As, cs, sl⟩, 0⟩ : RtV)]).length := (List.getElem?_eq_some_iff.1 hi).1
                            simp only [List.length_append, List.length_cons, List.length_nil] at hil
                            have hik : i = k := by have := HRL.out; omega
                            rw [List.getElem?_append_right (by omega), show i - rs.length = 0 by omega] at hi
                            simp only [List.getElem?_cons_zero, Option.some.injEq] at hi
                            subst hi
                            rw [hik]
                            exact ⟨HNAME.out, HNL.out, HPE.out, HMO.out, HST.out⟩
                        · intro u hu
                          rcases List.mem_append.1 hu with hu | hu
                          · obtain ⟨h1, h2⟩ := HRO.out u hu
                            refine ⟨h1.keep h2 hkx, ?_⟩
                            have hlo := h1.low
                            refine rtin_and h2 hlo fun b hb hl => ⟨hb.1, ?_⟩
                            rcases HAT.out with h | h
                            · intro hg
                              apply hb.2
                              rw [h]
                              simpa [Value.ownBlock] using hg
                            · intro hg
                              simp only [Value.ownBlock, Option.some.injEq] at hg
                              have := HB6.out.size
                              omega
                          · rw [List.mem_singleton.1 hu]
                            have o11 : (w9.setCell ⟨w.heap.size + 1 + 1, 1, none⟩ (.slice (some ⟨g, 0, none⟩) (rs.length + 1) cap')).ownsRow B0 48 5 (.slice (some ⟨g, 0, none⟩) (rs ++ [(⟨nm, ⟨An, cn, nl⟩, ⟨Al, cl, ls⟩, ⟨As, cs, sl⟩, 0⟩ : RtV)]).length cap') _ _ := o10
                            exact ⟨⟨own_slok n10 pfc_len (by omega) (fun _ _ => trivial), own_slok k10 lkc_len (by omega) (fun _ _ => trivial), own_slok s10 stc_len (by omega) (fun _ _ => trivial)⟩,
                              ⟨own_in2 (own_le n10 hrb) o11 (by decide), own_in2 (own_le k10 hrb) o11 (by decide), own_in2 (own_le s10 hrb) o11 (by decide)⟩⟩
        · obtain rfl : n = k := by omega
          obtain ⟨q0, q1⟩ := gb_cells2 T2.out
          obtain ⟨y0, y1⟩ := gb_cells2 T1.out
          have f0 := gb_free T1.out 0
          have f1 := gb_free T1.out 1
          have l1 := gb_lt T1.out
          go_wp2_with fail
          clear q0 q1 y0 y1 f0 f1
          have t1 := gb_set T1.out 0 (.slice Am ms.length cm)
          have t2 := gb_set t1 1 (.slice Ar rs.length cr)
          have o1 := own_store HOM.out T1.out (by decide) 0 (.slice Am ms.length cm)
          have o2 := own_store o1 t1 (by decide) 1 (.slice Ar rs.length cr)
          have p1 := own_store HOR.out T1.out (by decide) 0 (.slice Am ms.length cm)
          have p2 := own_store p1 t1 (by decide) 1 (.slice Ar rs.length cr)
          have hbz : Below w.heap.size w ((w2.setCell ⟨w.heap.size + 1, 0, none⟩ (.slice Am ms.length cm)).setCell ⟨w.heap.size + 1, 1, none⟩ (.slice Ar rs.length cr)) := Below.setCell (Below.setCell HB.out (by simp) _) (by simp) _
          have hkx : KeepX (fun b => B0 ≤ b) w2 ((w2.setCell ⟨w.heap.size + 1, 0, none⟩ (.slice Am ms.length cm)).setCell ⟨w.heap.size + 1, 1, none⟩ (.slice Ar rs.length cr)) := by
            refine ⟨by simp, fun b hb hX => ?_⟩
            rw [Below.heap_setCell _ _ _ _ (by simp; omega), Below.heap_setCell _ _ _ _ (by simp; omega)]
          generalize (w2.setCell ⟨w.heap.size + 1, 0, none⟩ (.slice Am ms.length cm)).setCell ⟨w.heap.size + 1, 1, none⟩ (.slice Ar rs.length cr) = wz at *
          simp at t2
          obtain ⟨y0, y1⟩ := gb_cells2 t2
          refine bodyPost_ret (v := .agg #[.slice Am ms.length cm, .slice Ar rs.length cr]) (by simp [results, Tryd.results10, go_sem, y0, y1]) rfl ⟨⟨⟨Am, cm, ms⟩, ⟨Ar, cr, rs⟩⟩, rfl, ⟨own_slok o2 mpc_len (by omega) (fun _ _ => trivial), own_slok p2 rtc_len (by omega) (fun u hu => (HRO.out u hu).1.keep ((HRO.out u hu).2.mono fun b h => h.1) hkx)⟩, ⟨HN.out, HRL.out.trans HNN.out, fun i u hi => by rw [← HNN.out]; exact HSP.out i u hi⟩, hbz⟩
end Go.Proofs.YteciceelinbfoaaDoor
