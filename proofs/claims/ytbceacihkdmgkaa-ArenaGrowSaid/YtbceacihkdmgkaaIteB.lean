import Derived.Test.YtbceacihkdmgkaaIteA
set_option linter.unusedVariables false
namespace Go.Proofs.Ytbceacihkdmgkaa
open Go.RowKit Mq

theorem run_node_var (w : World) (x y z : Int) : (Instr.field 33 (.agg #[.int .i64 x, .int .i64 y, .int .i64 z]) 0).run Try.prog w = .ok (.int .i64 x) w := by kernel_rfl
theorem get_at {W W1 Wc : World} {Y : Nat → Prop} {a : Nat} {ns : List Nd} {most : Nat} (hA : Ar W Y a ns most) (hB : Below W.heap.size W W1) (hc : Below W1.heap.size W1 Wc) (k : Int) {R : Ending → World → Prop}
    (h : ∀ w', Below W1.heap.size W1 w' → R (.returned (ndv (geti ns k))) w') : Calls Try.prog 26 #[.pointer (some ⟨a, 0, none⟩), .int .i64 k] Wc R :=
  (get_any (hA.below (below_trans hB hc)) k).mono fun e w' ⟨he, hb⟩ => by subst he; exact h w' (below_trans hc hb)
theorem min3_eq {ns : List Nd} {f g h v : Nat} (hv : v = min (var ns f) (min (var ns g) (var ns h))) :
    (if ((nd ns h).v : Int) < (if (nd ns g).v < (nd ns f).v then ((nd ns g).v : Int) else ((nd ns f).v : Int)) then ((nd ns h).v : Int) else if (nd ns g).v < (nd ns f).v then ((nd ns g).v : Int) else ((nd ns f).v : Int)) = (v : Int) := by
  unfold var at hv
  split <;> split at * <;> omega
/-- What the recursion gives. -/
def IteIH (a most mb db n v : Nat) : Prop := ∀ (X : Nat → Prop) (W : World) (ns : List Nd) (D : List (Key × Nat)) (f g h : Nat), ¬ X mb → ¬ X db →
  Ar W (fun b => X b ∨ b = mb ∨ b = db) a ns most → MkBox W mb db a 0 D → Memo ns D → f < ns.length → g < ns.length → h < ns.length → Dep 4 ns f → Dep 4 ns g → Dep 4 ns h →
  v ≤ var ns f → v ≤ var ns g → v ≤ var ns h →
  Calls Try.prog 55 #[.pointer (some ⟨mb, 0, none⟩), .int .i64 f, .int .i64 g, .int .i64 h] W (IteOut X a most mb db W ns n v (iteF ns f g h))

theorem ite_full1 {most : Nat} {ns : List Nd} {n v f g h : Nat} (hv : v < 1024) (W : WF ns) (hf : f < ns.length) (hg : g < ns.length) (hh : h < ns.length) (hvm : v = min (var ns f) (min (var ns g) (var ns h)))
    (q : Lack most ns n (iteF ns (half ns f v false) (half ns g v false) (half ns h v false))) : Lack most ns (n + 1) (iteF ns f g h) := by
  have p0 := half_is W hf hv (by omega) false
  have q0 := half_is W hg hv (by omega) false
  have r0 := half_is W hh hv (by omega) false
  have p1 := half_is W hf hv (by omega) true
  have q1 := half_is W hg hv (by omega) true
  have r1 := half_is W hh hv (by omega) true
  have fr : ∀ {k : Nat}, v + 1 ≤ var ns k → k < ns.length → ∀ u, u < v + 1 → ∀ r b, ev ns (upd r u b) k = ev ns r k := fun hk hl u hu r b => ev_upd W hl (by omega) r b
  refine (lack_lo (F1 := iteF ns (half ns f v true) (half ns g v true) (half ns h v true)) W (by omega) (fun u hu r b => ?_) (fun u hu r b => ?_) q).congr fun r => iteF_split p0 q0 r0 p1 q1 r1 r
  · simp only [iteF, fr p0.var p0.lt u hu, fr q0.var q0.lt u hu, fr r0.var r0.lt u hu]
  · simp only [iteF, fr p1.var p1.lt u hu, fr q1.var q1.lt u hu, fr r1.var r1.lt u hu]
theorem ite_splitX {ns ns1 : List Nd} {f g h v : Nat} (hv : v < 1024) (W : WF ns) (hf : f < ns.length) (hg : g < ns.length) (hh : h < ns.length) (X : Ext ns ns1) (W1 : WF ns1) (hvm : v = min (var ns f) (min (var ns g) (var ns h))) (r : Nat → Bool) :
    (if r v then iteF ns1 (half ns1 f v true) (half ns1 g v true) (half ns1 h v true) r else iteF ns (half ns f v false) (half ns g v false) (half ns h v false) r) = iteF ns f g h r := by
  have l := X.length
  have p0 := half_is W hf hv (by omega) false
  have q0 := half_is W hg hv (by omega) false
  have r0 := half_is W hh hv (by omega) false
  have p1 := half_is W1 (Nat.lt_of_lt_of_le hf l) hv (by rw [X.var hf]; omega) true
  have q1 := half_is W1 (Nat.lt_of_lt_of_le hg l) hv (by rw [X.var hg]; omega) true
  have r1 := half_is W1 (Nat.lt_of_lt_of_le hh l) hv (by rw [X.var hh]; omega) true
  have p0' : Half ns1 f v false (half ns f v false) := ⟨Nat.lt_of_lt_of_le p0.lt l, by rw [X.var p0.lt]; exact p0.var, fun r => by rw [X.ev W r _ p0.lt, p0.ev, X.ev W _ _ hf]⟩
  have q0' : Half ns1 g v false (half ns g v false) := ⟨Nat.lt_of_lt_of_le q0.lt l, by rw [X.var q0.lt]; exact q0.var, fun r => by rw [X.ev W r _ q0.lt, q0.ev, X.ev W _ _ hg]⟩
  have r0' : Half ns1 h v false (half ns h v false) := ⟨Nat.lt_of_lt_of_le r0.lt l, by rw [X.var r0.lt]; exact r0.var, fun r => by rw [X.ev W r _ r0.lt, r0.ev, X.ev W _ _ hh]⟩
  have e := iteF_split p0' q0' r0' p1 q1 r1 r
  rw [iteF_ext W X hf hg hh] at e
  rw [← e, iteF_ext W X p0.lt q0.lt r0.lt]
theorem ite_full2 {most : Nat} {ns ns1 : List Nd} {n v f g h lo : Nat} (hv : v < 1024) (W : WF ns) (hf : f < ns.length) (hg : g < ns.length) (hh : h < ns.length) (X : Ext ns ns1) (W1 : WF ns1)
    (h1 : Dia ns n (v + 1) (iteF ns (half ns f v false) (half ns g v false) (half ns h v false)) ns1 lo) (hvm : v = min (var ns f) (min (var ns g) (var ns h)))
    (q : Lack most ns1 n (iteF ns1 (half ns1 f v true) (half ns1 g v true) (half ns1 h v true))) : Lack most ns (n + 1) (iteF ns f g h) := by
  have l := X.length
  have p1 := half_is W1 (Nat.lt_of_lt_of_le hf l) hv (by rw [X.var hf]; omega) true
  have q1 := half_is W1 (Nat.lt_of_lt_of_le hg l) hv (by rw [X.var hg]; omega) true
  have r1 := half_is W1 (Nat.lt_of_lt_of_le hh l) hv (by rw [X.var hh]; omega) true
  have fr : ∀ {k : Nat}, v + 1 ≤ var ns1 k → k < ns1.length → ∀ u, u < v + 1 → ∀ r b, ev ns1 (upd r u b) k = ev ns1 r k := fun hk hl u hu r b => ev_upd W1 hl (by omega) r b
  refine (lack_hi W (by omega) h1 (fun u hu r b => ?_) q).congr fun r => ite_splitX hv W hf hg hh X W1 hvm r
  simp only [iteF, fr p1.var p1.lt u hu, fr q1.var q1.lt u hu, fr r1.var r1.lt u hu]
theorem ite_full {most : Nat} {ns ns1 ns2 ns3 : List Nd} {n v f g h lo hi k : Nat} (hv : v < 1024) (W : WF ns) (hf : f < ns.length) (hg : g < ns.length) (hh : h < ns.length) (X : Ext ns ns1) (W1 : WF ns1)
    (h1 : Dia ns n (v + 1) (iteF ns (half ns f v false) (half ns g v false) (half ns h v false)) ns1 lo)
    (h2 : Dia ns1 n (v + 1) (iteF ns1 (half ns1 f v true) (half ns1 g v true) (half ns1 h v true)) ns2 hi) (hvm : v = min (var ns f) (min (var ns g) (var ns h)))
    (hm : Made most ns2 ⟨v, lo, hi⟩ ns3 k 8) : 8 = 8 ∧ k = 0 ∧ Lack most ns (n + 1) (iteF ns f g h) :=
  ⟨rfl, (hm.fail (by omega)).2.1, (lack_mk W (by omega) h1 h2 hm (by omega)).congr fun r => ite_splitX hv W hf hg hh X W1 hvm r⟩
theorem ite_good {most : Nat} {ns ns1 ns2 ns3 : List Nd} {n v f g h lo hi k : Nat} {D : List (Key × Nat)} (hv : v < 1024) (W : WF ns) (hf : f < ns.length) (hg : g < ns.length) (hh : h < ns.length) (X : Ext ns ns1)
    (p0 : Half ns f v false (half ns f v false)) (q0 : Half ns g v false (half ns g v false)) (r0 : Half ns h v false (half ns h v false))
    (p1 : Half ns1 f v true (half ns1 f v true)) (q1 : Half ns1 g v true (half ns1 g v true)) (r1 : Half ns1 h v true (half ns1 h v true))
    (h1 : Dia ns n (v + 1) (iteF ns (half ns f v false) (half ns g v false) (half ns h v false)) ns1 lo)
    (h2 : Dia ns1 n (v + 1) (iteF ns1 (half ns1 f v true) (half ns1 g v true) (half ns1 h v true)) ns2 hi) (hD : Memo ns2 D)
    (hvm : v = min (var ns f) (min (var ns g) (var ns h))) (hm : Made most ns2 ⟨v, lo, hi⟩ ns3 k 0) :
    0 = 0 ∧ Memo ns3 (Mq.put ⟨f, g, h⟩ k D) ∧ Dia ns (n + 1) v (iteF ns f g h) ns3 k := by
  have hd := dia_node W hv h1 h2 hm rfl
  have p0' : Half ns1 f v false (half ns f v false) := ⟨Nat.lt_of_lt_of_le p0.lt X.length, by rw [X.var p0.lt]; exact p0.var, fun r => by rw [X.ev W r _ p0.lt, p0.ev, X.ev W _ _ hf]⟩
  have q0' : Half ns1 g v false (half ns g v false) := ⟨Nat.lt_of_lt_of_le q0.lt X.length, by rw [X.var q0.lt]; exact q0.var, fun r => by rw [X.ev W r _ q0.lt, q0.ev, X.ev W _ _ hg]⟩
  have r0' : Half ns1 h v false (half ns h v false) := ⟨Nat.lt_of_lt_of_le r0.lt X.length, by rw [X.var r0.lt]; exact r0.var, fun r => by rw [X.ev W r _ r0.lt, r0.ev, X.ev W _ _ hh]⟩
  have hd' : Dia ns (n + 1) v (iteF ns f g h) ns3 k := hd.congr fun r => by
    have e := iteF_split p0' q0' r0' p1 q1 r1 r
    rw [iteF_ext W X hf hg hh] at e
    rw [← e, iteF_ext W X p0.lt q0.lt r0.lt]
  refine ⟨rfl, ?_, hd'⟩
  have x3 : Ext ns ns3 := hd'.ext
  have l := x3.length
  refine (hD.ext h2.wf hm.ext).put (Nat.lt_of_lt_of_le hf l) (Nat.lt_of_lt_of_le hg l) (Nat.lt_of_lt_of_le hh l) hd'.lt ?_ fun r => by rw [hd'.ev, iteF_ext W x3 hf hg hh]
  rw [x3.var hf, x3.var hg, x3.var hh, ← hvm]
  exact hd'.var

set_option maxRecDepth 100000 in
set_option maxHeartbeats 2000000 in
theorem ite_go {a most mb db : Nat} (n v : Nat) (hvn : v + (n + 1) = 4) (ih : IteIH a most mb db n (v + 1))
    (X : Nat → Prop) (W : World) (ns : List Nd) (D : List (Key × Nat)) (f g h : Nat) (hxm : ¬ X mb) (hxd : ¬ X db)
    (hA : Ar W (fun b => X b ∨ b = mb ∨ b = db) a ns most) (hM : MkBox W mb db a 0 D) (hD : Memo ns D) (hf : f < ns.length) (hg : g < ns.length) (hh : h < ns.length)
    (df : Dep 4 ns f) (dg : Dep 4 ns g) (dh : Dep 4 ns h) (hv : v = min (var ns f) (min (var ns g) (var ns h))) (h0 : f ≠ 0) (h1 : f ≠ 1) (hgh : g ≠ h) (hl : Mq.look ⟨f, g, h⟩ D = none) :
    Calls Try.prog 55 #[.pointer (some ⟨mb, 0, none⟩), .int .i64 f, .int .i64 g, .int .i64 h] W (IteOut X a most mb db W ns (n + 1) v (iteF ns f g h)) := by
  obtain ⟨c0, c1, c2, -⟩ := cells3 hM.head
  have hseen := fun (o : Obj) (q : Nat) => run_done_look ((W.alloc o).drewN q) (db := db) (D := D) (by
    rw [World.heap_drewN, Below.heap_alloc _ _ _ hM.lt.2]; exact hM.done) ⟨f, g, h⟩
  simp only [hl, Option.getD_none, Option.isSome_none] at hseen
  unfold keyv numv at hseen
  have hlt := hM.lt.1
  have he : errv 0 = .nilIface := rfl
  rw [he] at c2
  have e0 : ((f : Int) == 0) = false := by rw [beq_eq_false_iff_ne]; omega
  have e1 : ((f : Int) == 1) = false := by rw [beq_eq_false_iff_ne]; omega
  have e2 : ((g : Int) == (h : Int)) = false := by rw [beq_eq_false_iff_ne]; omega
  -- the world behind the key's box
  have hW1 : ∀ q, Below W.heap.size W ((W.alloc (.cells #[.int .i64 f, .int .i64 g, .int .i64 h] 84)).drewN q) := fun q => pw_below_drewN (below_alloc (Below.refl _ _) _) q
  have gf := Lib.hid (geti_nat ns f)
  have gg := Lib.hid (geti_nat ns g)
  have gh := Lib.hid (geti_nat ns h)
  have HA := Lib.hid hA
  have HM := Lib.hid hM
  have HD := Lib.hid hD
  have HV := Lib.hid hv
  have IH := Lib.hid ih
  have HW := Lib.hid hW1
  have Hf := Lib.hid hf
  have Hg := Lib.hid hg
  have Hh := Lib.hid hh
  have DF := Lib.hid df
  have DG := Lib.hid dg
  have DH := Lib.hid dh
  clear hA hM he hgh h0 h1 hl hD hv ih hW1 hf hg hh df dg dh
  go_enter Try.func55, Try.ntmps55
  go_wp2_with fail
  go_quiet (fail)
  go_wp2_with fail
  clear hseen e0 e1 e2
  generalize hWq : (W.alloc (.cells #[.int .i64 f, .int .i64 g, .int .i64 h] 84)).drewN _ = W1
  have B1 : Below W.heap.size W W1 := by rw [← hWq]; exact HW.out _
  have k0 : W1.heap[W.heap.size]? = some (.cells #[.int .i64 f, .int .i64 g, .int .i64 h] 84 (0, 0)) := by rw [← hWq]; exact heap_alloc_new W _
  clear hWq
  have c0' := (B1.cell (p := ⟨mb, 0, none⟩) hlt).trans c0
  clear c0 c1 c2
  have hmb1 : mb < W1.heap.size := Nat.lt_of_lt_of_le hlt B1.size
  have HS : ∀ w', Below W1.heap.size W1 w' → w'.cell? ⟨mb, 0, none⟩ = some (.pointer (some ⟨a, 0, none⟩)) ∧ Below W1.heap.size W1 w' := fun w' hb => ⟨(hb.cell (p := ⟨mb, 0, none⟩) hmb1).trans c0', hb⟩
  have HS' := Lib.hid HS
  have BB1 := Lib.hid B1
  clear HS B1
  have hfld := run_node_var
  go_region_held3 (fun w' => w'.cell? ⟨mb, 0, none⟩ = some (.pointer (some ⟨a, 0, none⟩)) ∧ Below W1.heap.size W1 w')
    (first | exact HS'.out _ (below_drew1 _) | exact HS'.out _ hs6 | go_keep)
    (first | (go_at_call 26; refine get_at HA.out BB1.out ?_ _ ?_; (first | exact below_drew1 _ | assumption | exact (‹_ ∧ Below _ _ _›).2); intro w6 hs6; (first | rw [gf.out] | rw [gg.out] | rw [gh.out]); unfold ndv))
  rw [min3_eq HV.out]
  have B6 := Lib.hid (below_trans BB1.out hs6)
  have k6 := blk_below hs6 k0 (Array.getElem?_eq_some_iff.1 k0).1
  have K6 := Lib.hid k6
  clear k0 c0' hs6 HS' hmb1 hfld k6 BB1
  go_wp2_with fail
  have hws := HA.out.wf
  have A6 := Lib.hid (HA.out.below B6.out)
  have M6 := Lib.hid (HM.out.below B6.out)
  refine (half_any A6.out M6.out f v Hf.out false).mono ?_
  rintro e w7 ⟨rfl, hb7⟩
  have B7 := Lib.hid hb7; clear hb7
  go_wp2_with fail
  refine (half_any (A6.out.below B7.out) (M6.out.below B7.out) g v Hg.out false).mono ?_
  rintro e w8 ⟨rfl, hb8⟩
  have B8 := Lib.hid (below_trans B7.out hb8); clear hb8
  go_wp2_with fail
  refine (half_any (A6.out.below B8.out) (M6.out.below B8.out) h v Hh.out false).mono ?_
  rintro e w9 ⟨rfl, hb9⟩
  have B9 := Lib.hid (below_trans B8.out hb9); clear hb9
  go_wp2_with fail
  have P0 := Lib.hid (half_is HA.out.wf Hf.out (by omega) (by rw [HV.out]; omega) false : Half ns f v false _)
  have Q0 := Lib.hid (half_is HA.out.wf Hg.out (by omega) (by rw [HV.out]; omega) false : Half ns g v false _)
  have R0 := Lib.hid (half_is HA.out.wf Hh.out (by omega) (by rw [HV.out]; omega) false : Half ns h v false _)
  have A9 : Ar w9 (fun b => (X b ∨ b = W.heap.size) ∨ b = mb ∨ b = db) a ns most := by
    have hb := below_trans B6.out B9.out
    have hkl := (Array.getElem?_eq_some_iff.1 K6.out).1
    have := B9.out.size
    exact (HA.out.below_more hb).mono fun b hb => by
      rcases hb with (hb | hb) | hb
      · exact .inl (.inl hb)
      · exact .inr ⟨by omega, by omega⟩
      · exact .inl (.inr hb)
  have M9 := HM.out.below (below_trans B6.out B9.out)
  have k9 := Lib.hid (blk_below B9.out K6.out (Array.getElem?_eq_some_iff.1 K6.out).1)
  have hmlt := HM.out.lt
  refine (IH.out (fun b => X b ∨ b = W.heap.size) w9 ns D (half ns f v false) (half ns g v false) (half ns h v false) (by rintro (q | q); exact hxm q; omega) (by rintro (q | q); exact hxd q; omega)
    A9 M9 HD.out P0.out.lt Q0.out.lt R0.out.lt (P0.out.dep DF.out) (Q0.out.dep DG.out) (R0.out.dep DH.out) P0.out.var Q0.out.var R0.out.var).mono ?_
  clear A9 M9 hws
  rintro e w10 ⟨ns1, lo, D1, err, rfl, hA1, hK1, hM1, hX1, hcase⟩
  have A10 := Lib.hid hA1
  have K10 := Lib.hid ((Keep.below (X := X) (below_trans B6.out B9.out)).trans (hK1.mono fun _ q => .inl q))
  have k10 := Lib.hid ((hK1.block W.heap.size (.inr rfl) (Array.getElem?_eq_some_iff.1 k9.out).1).trans k9.out)
  have M10 := Lib.hid hM1
  have X10 := Lib.hid hX1
  clear hA1 hK1 hM1 hX1 hmlt B6 A6 M6 K6 B7 B8 B9 k9
  have Hf1 := Lib.hid (Nat.lt_of_lt_of_le Hf.out X10.out.length)
  have Hg1 := Lib.hid (Nat.lt_of_lt_of_le Hg.out X10.out.length)
  have Hh1 := Lib.hid (Nat.lt_of_lt_of_le Hh.out X10.out.length)
  go_wp2_with fail
  refine (half_any A10.out M10.out f v Hf1.out true).mono ?_
  rintro e w11 ⟨rfl, hb11⟩
  have B11 := Lib.hid hb11; clear hb11
  go_wp2_with fail
  refine (half_any (A10.out.below B11.out) (M10.out.below B11.out) g v Hg1.out true).mono ?_
  rintro e w12 ⟨rfl, hb12⟩
  have B12 := Lib.hid (below_trans B11.out hb12); clear hb12
  go_wp2_with fail
  refine (half_any (A10.out.below B12.out) (M10.out.below B12.out) h v Hh1.out true).mono ?_
  rintro e w13 ⟨rfl, hb13⟩
  have B13 := Lib.hid (below_trans B12.out hb13); clear hb13
  go_wp2_with fail
  have A13 := Lib.hid (A10.out.below B13.out)
  have M13 := Lib.hid (M10.out.below B13.out)
  have K13 := Lib.hid (K10.out.trans (Keep.below B13.out))
  have k13 := Lib.hid (blk_below B13.out k10.out (Array.getElem?_eq_some_iff.1 k10.out).1)
  have hp2 : 2 ^ n ≤ 2 ^ (n + 1) := Nat.pow_le_pow_right (by omega) (by omega)
  have HP2 := Lib.hid hp2
  have hmd : mb ≠ db := by
    intro q; have h1 := M13.out.head; rw [q, M13.out.done] at h1; simp [mapObj] at h1
  clear hp2 A10 M10 K10 k10 B11 B12 B13
  rcases hcase with ⟨rfl, hmemo, hdia⟩ | ⟨rfl, rfl, hfull⟩
  · have E1 := Lib.hid hdia
    have MM := Lib.hid hmemo
    clear hdia hmemo
    have P1 := Lib.hid (half_is A13.out.wf Hf1.out (by omega) (by rw [X10.out.var Hf.out, HV.out]; omega) true : Half ns1 f v true _)
    have Q1 := Lib.hid (half_is A13.out.wf Hg1.out (by omega) (by rw [X10.out.var Hg.out, HV.out]; omega) true : Half ns1 g v true _)
    have R1 := Lib.hid (half_is A13.out.wf Hh1.out (by omega) (by rw [X10.out.var Hh.out, HV.out]; omega) true : Half ns1 h v true _)
    have hw0 := Lib.hid HA.out.wf
    refine (IH.out (fun b => X b ∨ b = W.heap.size) w13 ns1 D1 (half ns1 f v true) (half ns1 g v true) (half ns1 h v true) (by have := HM.out.lt; rintro (q | q); exact hxm q; omega) (by have := HM.out.lt; rintro (q | q); exact hxd q; omega)
      A13.out M13.out MM.out P1.out.lt Q1.out.lt R1.out.lt (P1.out.dep (DF.out.ext hw0.out Hf.out X10.out)) (Q1.out.dep (DG.out.ext hw0.out Hg.out X10.out)) (R1.out.dep (DH.out.ext hw0.out Hh.out X10.out)) P1.out.var Q1.out.var R1.out.var).mono ?_
    rintro e w14 ⟨ns2, hi, D2, err, rfl, hA2, hK2, hM2, hX2, hcase⟩
    have A14 := Lib.hid hA2
    have K14 := Lib.hid (K13.out.trans (hK2.mono fun _ q => .inl q))
    have k14 := Lib.hid ((hK2.block W.heap.size (.inr rfl) (Array.getElem?_eq_some_iff.1 k13.out).1).trans k13.out)
    have M14 := Lib.hid hM2
    have X14 := Lib.hid hX2
    obtain ⟨c0, c1, c2, d0, d1, d2⟩ := cells3 hM2.head
    clear hA2 hK2 hM2 hX2 A13 M13 K13 k13 d0 d1
    rcases hcase with ⟨rfl, hmemo, hdia⟩ | ⟨rfl, rfl, hfull⟩
    · have E2 := Lib.hid hdia
      have MM2 := Lib.hid hmemo
      clear hdia hmemo
      have he0 : errv 0 = .nilIface := rfl
      rw [he0] at c2
      clear he0
      go_wp2_with fail
      have hok := dia_ok (by omega) E1.out E2.out
      refine (mk_any A14.out ⟨v, lo, hi⟩ hok).mono ?_
      rintro e w15 ⟨rfl, hA3, hk3⟩
      have Made := Lib.hid (mk_made (most := most) A14.out.wf hok)
      generalize (mk most ns2 ⟨v, lo, hi⟩).2.1 = k at *
      generalize (mk most ns2 ⟨v, lo, hi⟩).2.2 = er at *
      generalize (mk most ns2 ⟨v, lo, hi⟩).1 = ns3 at *
      have A15 := Lib.hid hA3
      have K15 := Lib.hid (K14.out.trans (hk3.mono fun _ q => .inl (.inl q)))
      have M15 := M14.out.keep hk3 (.inr (.inl rfl)) (.inr (.inr rfl))
      have k15 := (hk3.block W.heap.size (.inl (.inr rfl)) (Array.getElem?_eq_some_iff.1 k14.out).1).trans k14.out
      clear hok hA3 hk3 A14 K14 M14 k14 c0 c1 c2 d2
      have M15' := Lib.hid M15
      obtain ⟨c0, c1, c2, d0, d1, d2⟩ := cells3 M15.head
      have K15b := Lib.hid k15
      have hes : Hid (er = 0 ∨ er = 8) := by
        rcases Nat.eq_zero_or_pos er with q | q
        · exact .inl q
        · exact .inr (Made.out.fail (by omega)).1
      clear M15 k15
      have hst : ∀ (w : World), w.heap[db]? = some (mapObj keyv numv D2) → (Instr.mapUpdate 76 (.map (some db)) (.agg #[.int .i64 f, .int .i64 g, .int .i64 h]) (.int .i64 k)).run Try.prog w = .ok () (ChangeMaps.setBlock w db (mapObj keyv numv (Mq.put ⟨f, g, h⟩ k D2))) :=
        fun w hd => run_done_store w hd ⟨f, g, h⟩ k
      have HST := Lib.hid hst
      clear hst
      rcases hes.out with rfl | rfl
      · have he0 : errv 0 = .nilIface := rfl
        rw [he0] at ⊢
        have hez : errv 0 = .nilIface := rfl
        rw [hez] at c2
        clear he0 hez
        go_wp2_with fail
        have he0 : .nilIface = errv 0 := rfl
        rw [he0]
        have M16 := M15'.out.setErr hmd 0
        have A16 := Lib.hid (A15.out.setCell (p := ⟨mb, 2, none⟩) (.inr (.inl rfl)) (errv 0))
        have K16 := Lib.hid (K15.out.trans (keep_setCell (p := ⟨mb, 2, none⟩) hxm (errv 0)))
        have k16 : (w15.setCell ⟨mb, 2, none⟩ (errv 0)).heap[W.heap.size]? = _ := (Below.heap_setCell _ _ _ _ (by have := HM.out.lt; simp; omega)).trans K15b.out
        clear c0 c1 c2 d0 d1 d2 he0
        generalize w15.setCell ⟨mb, 2, none⟩ (errv 0) = w16 at *
        obtain ⟨m0, m1, -, -, -, -⟩ := cells3 M16.head
        obtain ⟨b0, b1, b2, -, -, -⟩ := cells3 k16
        have hst1 := HST.out (w16.drewN 1) M16.done
        have hst2 := Lib.hid hst1
        have M17 := Lib.hid ((show MkBox (w16.drewN 1) mb db a 0 D2 from ⟨M16.head, M16.done⟩).store hmd (D' := Mq.put ⟨f, g, h⟩ k D2))
        have A17 := Lib.hid ((A16.out.drewN 1).setBlock (.inr (.inr rfl)) (mapObj keyv numv (Mq.put ⟨f, g, h⟩ k D2)))
        have K17 := Lib.hid ((K16.out.drewN 1).trans (keep_setBlock (w := w16.drewN 1) hxd (mapObj keyv numv (Mq.put ⟨f, g, h⟩ k D2))))
        clear hst1 M16 k16
        go_still_tail 6, (by kernel_rfl)
        change wpList _ _ _ _ _ (w16.drewN 1)
        go_wp2_with fail
        rw [hst2.out]
        clear hst2 m0 m1 b0 b1 b2
        generalize ChangeMaps.setBlock (w16.drewN 1) db (mapObj keyv numv (Mq.put ⟨f, g, h⟩ k D2)) = w17 at *
        go_wp2_with fail
        go_ret
        refine ⟨ns3, k, Mq.put ⟨f, g, h⟩ k D2, 0, rfl, A17.out.mono (fun _ q => by rcases q with q | q; exact .inl (.inl q); exact .inr q), K17.out, M17.out, (X10.out.trans X14.out).trans Made.out.ext, ?_⟩
        exact .inl (ite_good (D := D2) (by omega) hw0.out Hf.out Hg.out Hh.out X10.out P0.out Q0.out R0.out P1.out Q1.out R1.out E1.out E2.out MM2.out HV.out Made.out)
      · have he0 : errv 8 = .iface 79 (.int .i64 8) := rfl
        rw [he0] at ⊢
        have hez : errv 0 = .nilIface := rfl
        rw [hez] at c2
        clear he0 hez
        go_wp2_with fail
        have he0 : .iface 79 (.int .i64 8) = errv 8 := rfl
        rw [he0]
        have M16 := M15'.out.setErr hmd 8
        have A16 := Lib.hid (A15.out.setCell (p := ⟨mb, 2, none⟩) (.inr (.inl rfl)) (errv 8))
        have K16 := Lib.hid (K15.out.trans (keep_setCell (p := ⟨mb, 2, none⟩) hxm (errv 8)))
        have k16 : (w15.setCell ⟨mb, 2, none⟩ (errv 8)).heap[W.heap.size]? = _ := (Below.heap_setCell _ _ _ _ (by have := HM.out.lt; simp; omega)).trans K15b.out
        clear c0 c1 c2 d0 d1 d2 he0
        generalize w15.setCell ⟨mb, 2, none⟩ (errv 8) = w16 at *
        obtain ⟨m0, m1, -, -, -, -⟩ := cells3 M16.head
        obtain ⟨b0, b1, b2, -, -, -⟩ := cells3 k16
        have hst1 := HST.out (w16.drewN 1) M16.done
        have hst2 := Lib.hid hst1
        have M17 := Lib.hid ((show MkBox (w16.drewN 1) mb db a 8 D2 from ⟨M16.head, M16.done⟩).store hmd (D' := Mq.put ⟨f, g, h⟩ k D2))
        have A17 := Lib.hid ((A16.out.drewN 1).setBlock (.inr (.inr rfl)) (mapObj keyv numv (Mq.put ⟨f, g, h⟩ k D2)))
        have K17 := Lib.hid ((K16.out.drewN 1).trans (keep_setBlock (w := w16.drewN 1) hxd (mapObj keyv numv (Mq.put ⟨f, g, h⟩ k D2))))
        clear hst1 M16 k16
        go_still_tail 6, (by kernel_rfl)
        change wpList _ _ _ _ _ (w16.drewN 1)
        go_wp2_with fail
        rw [hst2.out]
        clear hst2 m0 m1 b0 b1 b2
        generalize ChangeMaps.setBlock (w16.drewN 1) db (mapObj keyv numv (Mq.put ⟨f, g, h⟩ k D2)) = w17 at *
        go_wp2_with fail
        go_ret
        refine ⟨ns3, k, Mq.put ⟨f, g, h⟩ k D2, 8, rfl, A17.out.mono (fun _ q => by rcases q with q | q; exact .inl (.inl q); exact .inr q), K17.out, M17.out, (X10.out.trans X14.out).trans Made.out.ext, ?_⟩
        exact .inr (ite_full (by omega) hw0.out Hf.out Hg.out Hh.out X10.out E1.out.wf E1.out E2.out HV.out Made.out)
    · have he8 : errv 8 = .iface 79 (.int .i64 8) := rfl
      rw [he8] at c2
      clear he8
      go_wp2_with fail
      go_ret
      exact ⟨ns2, 0, D2, 8, rfl, A14.out.mono (fun _ q => by rcases q with q | q; exact .inl (.inl q); exact .inr q), K14.out, M14.out, X10.out.trans X14.out, .inr ⟨rfl, rfl, ite_full2 (by omega) hw0.out Hf.out Hg.out Hh.out X10.out E1.out.wf E1.out HV.out hfull⟩⟩
  · obtain ⟨-, -, c2, -, -, -⟩ := cells3 M13.out.head
    have he8 : errv 8 = .iface 79 (.int .i64 8) := rfl
    rw [he8] at c2
    clear he8
    refine (ite_err M13.out _ _ _).mono ?_
    rintro e w14 ⟨rfl, rfl⟩
    go_wp2_with fail
    go_ret
    exact ⟨ns1, 0, D1, 8, rfl, A13.out.mono (fun _ q => by rcases q with q | q; exact .inl (.inl q); exact .inr q), K13.out, M13.out, X10.out, .inr ⟨rfl, rfl, ite_full1 (by omega) HA.out.wf Hf.out Hg.out Hh.out HV.out hfull⟩⟩
end Go.Proofs.Ytbceacihkdmgkaa
