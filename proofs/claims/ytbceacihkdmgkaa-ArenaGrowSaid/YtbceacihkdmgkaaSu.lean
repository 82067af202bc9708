import Derived.Test.YtbceacihkdmgkaaSz
import Derived.Test.YtbceacihkdmgkaaSup
import Derived.Test.YtbceacihkdmgkaaGn
import Derived.Deep.RegionLaw
import Derived.Deep.DeepCutAuto
set_option linter.unusedVariables false
namespace Go.Proofs.Ytbceacihkdmgkaa
open Go.RowKit Mq

theorem put_addU (v : Nat) (U : List Nat) : Mq.put v true (trm U) = trm (addU U v) := by
  unfold addU
  split
  · rename_i h
    induction U with
    | nil => simp at h
    | cons x l ih =>
      simp only [trm, List.map_cons, Mq.put]
      by_cases e : x = v
      · subst e; simp
      · rw [if_neg e]
        have := ih (by simpa [Ne.symm e] using h)
        unfold trm at this
        rw [this]
  · rename_i h; exact put_trm h
theorem run_vars_store (w : World) {mb : Nat} {U : List Nat} (h : w.heap[mb]? = some (mapObj numv boolv (trm U))) (k : Nat) :
    (Instr.mapUpdate 80 (.map (some mb)) (numv k) (.bool true)).run Try.prog w = .ok () (ChangeMaps.setBlock w mb (mapObj numv boolv (trm (addU U k)))) := by
  have := Mq.run_store key_nat Try.underlying80 (encv := boolv) w h k true
  rw [put_addU] at this
  exact this
/-- The walk's boxes: the arena's, the two sets', its own. -/
structure SuBox (W : World) (a ab sb vb ib mb nb : Nat) (S U : List Nat) : Prop where
  ha : W.heap[ab]? = some (.cells #[.pointer (some ⟨a, 0, none⟩)] 24 (0, 0))
  hs : W.heap[sb]? = some (.cells #[.map (some mb)] 80 (0, 0))
  hv : W.heap[vb]? = some (.cells #[.map (some nb)] 80 (0, 0))
  hi : W.heap[ib]? = some (.cells #[.func (.func 60) #[] #[.pointer (some ⟨ab, 0, none⟩), .pointer (some ⟨sb, 0, none⟩), .pointer (some ⟨vb, 0, none⟩), .pointer (some ⟨ib, 0, none⟩)]] 81 (0, 0))
  hm : W.heap[mb]? = some (mapObj numv boolv (trm S))
  hn : W.heap[nb]? = some (mapObj numv boolv (trm U))
  na : ab ≠ mb ∧ ab ≠ nb
  ns : sb ≠ mb ∧ sb ≠ nb
  nv : vb ≠ mb ∧ vb ≠ nb
  ni : ib ≠ mb ∧ ib ≠ nb
  nn : mb ≠ nb
def SuY (mb nb : Nat) (k : Nat) : Prop := k ≠ mb ∧ k ≠ nb
theorem SuBox.keep {W W' : World} {a ab sb vb ib mb nb : Nat} {S U S' U' : List Nat} (h : SuBox W a ab sb vb ib mb nb S U) (hk : Keep (SuY mb nb) W W') (hm : W'.heap[mb]? = some (mapObj numv boolv (trm S'))) (hn : W'.heap[nb]? = some (mapObj numv boolv (trm U'))) : SuBox W' a ab sb vb ib mb nb S' U' :=
  { h with ha := (hk.block _ h.na (Array.getElem?_eq_some_iff.1 h.ha).1).trans h.ha, hs := (hk.block _ h.ns (Array.getElem?_eq_some_iff.1 h.hs).1).trans h.hs, hv := (hk.block _ h.nv (Array.getElem?_eq_some_iff.1 h.hv).1).trans h.hv, hi := (hk.block _ h.ni (Array.getElem?_eq_some_iff.1 h.hi).1).trans h.hi, hm := hm, hn := hn }
theorem SuBox.below {W W' : World} {a ab sb vb ib mb nb : Nat} {S U : List Nat} (h : SuBox W a ab sb vb ib mb nb S U) (hb : Below W.heap.size W W') : SuBox W' a ab sb vb ib mb nb S U :=
  h.keep (Keep.below hb) (blk_below hb h.hm (Array.getElem?_eq_some_iff.1 h.hm).1) (blk_below hb h.hn (Array.getElem?_eq_some_iff.1 h.hn).1)
theorem Ar.keepU {W W' : World} {X : Nat → Prop} {a mb nb : Nat} {ns : List Nd} {most : Nat} (h : Ar W X a ns most) (hx : X mb ∧ X nb) (hk : Keep (SuY mb nb) W W') : Ar W' X a ns most := by
  obtain ⟨sb, g, cap, cur, h⟩ := h
  exact ⟨sb, g, cap, cur, h.moved (fun k hk1 hk2 => hk.block k ⟨by rintro rfl; exact h.not_x hk2 hx.1, by rintro rfl; exact h.not_x hk2 hx.2⟩ hk1) (fun k hk1 => Nat.lt_of_lt_of_le (h.low k hk1) hk.size) (fun k _ hk => h.not_x hk)⟩
theorem set_keepU (W : World) (mb nb : Nat) (o o' : Obj) : Keep (SuY mb nb) W (ChangeMaps.setBlock (ChangeMaps.setBlock W mb o) nb o') := (keep_setBlock (fun h => h.1 rfl) o).trans (keep_setBlock (fun h => h.2 rfl) o')
theorem set_swap (W : World) {mb nb : Nat} (h : mb ≠ nb) (o o' : Obj) : ChangeMaps.setBlock (ChangeMaps.setBlock W nb o') mb o = ChangeMaps.setBlock (ChangeMaps.setBlock W mb o) nb o' := by
  simp only [ChangeMaps.setBlock]
  congr 1
  exact Array.setIfInBounds_comm o' o (Ne.symm h)
def SuPost (a ab sb vb ib mb nb : Nat) (W : World) (p : List Nat × List Nat) (e : Ending) (W' : World) : Prop := e = .returned (.tuple #[]) ∧ Keep (SuY mb nb) W W' ∧ SuBox W' a ab sb vb ib mb nb p.1 p.2

set_option maxRecDepth 100000 in
theorem su_leaf {W : World} {X : Nat → Prop} {a ab sb vb ib mb nb : Nat} {ns : List Nd} {most : Nat} {S U : List Nat} (h : Ar W X a ns most) (hB : SuBox W a ab sb vb ib mb nb S U) (k : Nat) (hk : var ns k = 1024) :
    Calls Try.prog 60 #[.int .i64 k, .pointer (some ⟨ab, 0, none⟩), .pointer (some ⟨sb, 0, none⟩), .pointer (some ⟨vb, 0, none⟩), .pointer (some ⟨ib, 0, none⟩)] W (SuPost a ab sb vb ib mb nb W (S, U)) := by
  obtain ⟨c0, -⟩ := cells1 hB.ha
  have H := Lib.hid h
  have HB := Lib.hid hB
  have hgi := Lib.hid (geti_nat ns k)
  clear h hB
  unfold var at hk
  generalize nd ns k = n at *
  obtain ⟨nv, nl, nh⟩ := n
  simp only at hk
  subst hk
  go_enter Try.func60, Try.ntmps60
  go_wp2_with fail
  refine (get_any H.out k).mono ?_
  rintro e w1 ⟨rfl, hb1⟩
  rw [hgi.out]
  unfold ndv
  have B := Lib.hid hb1
  clear hb1
  go_wp2_with fail
  go_end0
  exact ⟨rfl, Keep.below (below_alloc B.out _), HB.out.below (below_alloc B.out _)⟩

set_option maxRecDepth 100000 in
theorem su_seen {W : World} {X : Nat → Prop} {a ab sb vb ib mb nb : Nat} {ns : List Nd} {most : Nat} {S U : List Nat} (h : Ar W X a ns most) (hB : SuBox W a ab sb vb ib mb nb S U) (k : Nat) (hk : var ns k ≠ 1024) (hS : k ∈ S) :
    Calls Try.prog 60 #[.int .i64 k, .pointer (some ⟨ab, 0, none⟩), .pointer (some ⟨sb, 0, none⟩), .pointer (some ⟨vb, 0, none⟩), .pointer (some ⟨ib, 0, none⟩)] W (SuPost a ab sb vb ib mb nb W (S, U)) := by
  obtain ⟨c0, -⟩ := cells1 hB.ha
  obtain ⟨c1, -⟩ := cells1 hB.hs
  have H := Lib.hid h
  have HB := Lib.hid hB
  have hls := (Array.getElem?_eq_some_iff.1 hB.hs).1
  have hgi := Lib.hid (geti_nat ns k)
  clear h hB
  unfold var at hk
  generalize nd ns k = n at *
  obtain ⟨nv, nl, nh⟩ := n
  simp only at hk
  have h3 : ((nv : Int) == 1024) = false := by rw [beq_eq_false_iff_ne]; omega
  clear hk
  go_enter Try.func60, Try.ntmps60
  go_wp2_with fail
  refine (get_any H.out k).mono ?_
  rintro e w1 ⟨rfl, hb1⟩
  rw [hgi.out]
  unfold ndv
  have B := Lib.hid hb1
  have s1 : sb < w1.heap.size := Nat.lt_of_lt_of_le hls hb1.size
  have c1' := (hb1.cell (p := ⟨sb, 0, none⟩) hls).trans c1
  have hlk := run_seen_look (w1.alloc (.cells #[.int .i64 nv, .int .i64 nl, .int .i64 nh] 33)) (HB.out.below (below_alloc hb1 _)).hm k
  have hd : decide (k ∈ S) = true := by simp [hS]
  rw [hd] at hlk
  unfold numv at hlk
  clear hb1 hd c1
  go_wp2_with fail
  go_end0
  exact ⟨rfl, Keep.below (below_alloc B.out _), HB.out.below (below_alloc B.out _)⟩

set_option maxRecDepth 100000 in
set_option maxHeartbeats 1000000 in
theorem su_go {W : World} {X : Nat → Prop} {a ab sb vb ib mb nb : Nat} {ns : List Nd} {most : Nat} {S U : List Nat} {P1 P2 : List Nat × List Nat} (h : Ar W X a ns most) (hx : X mb ∧ X nb) (hB : SuBox W a ab sb vb ib mb nb S U) (k : Nat) (hk : var ns k ≠ 1024) (hS : k ∉ S)
    (i1 : ∀ W', Ar W' X a ns most → SuBox W' a ab sb vb ib mb nb (S ++ [k]) (addU U (nd ns k).v) → Calls Try.prog 60 #[.int .i64 (nd ns k).lo, .pointer (some ⟨ab, 0, none⟩), .pointer (some ⟨sb, 0, none⟩), .pointer (some ⟨vb, 0, none⟩), .pointer (some ⟨ib, 0, none⟩)] W' (SuPost a ab sb vb ib mb nb W' P1))
    (i2 : ∀ W', Ar W' X a ns most → SuBox W' a ab sb vb ib mb nb P1.1 P1.2 → Calls Try.prog 60 #[.int .i64 (nd ns k).hi, .pointer (some ⟨ab, 0, none⟩), .pointer (some ⟨sb, 0, none⟩), .pointer (some ⟨vb, 0, none⟩), .pointer (some ⟨ib, 0, none⟩)] W' (SuPost a ab sb vb ib mb nb W' P2)) :
    Calls Try.prog 60 #[.int .i64 k, .pointer (some ⟨ab, 0, none⟩), .pointer (some ⟨sb, 0, none⟩), .pointer (some ⟨vb, 0, none⟩), .pointer (some ⟨ib, 0, none⟩)] W (SuPost a ab sb vb ib mb nb W P2) := by
  obtain ⟨c0, -⟩ := cells1 hB.ha
  obtain ⟨c1, -⟩ := cells1 hB.hs
  obtain ⟨c2, -⟩ := cells1 hB.hv
  have H := Lib.hid h
  have HB := Lib.hid hB
  have I1 := Lib.hid i1
  have I2 := Lib.hid i2
  have hls := (Array.getElem?_eq_some_iff.1 hB.hs).1
  have hlv := (Array.getElem?_eq_some_iff.1 hB.hv).1
  have hgi := Lib.hid (geti_nat ns k)
  clear h hB i1 i2
  unfold var at hk
  generalize nd ns k = n at *
  obtain ⟨nv, nl, nh⟩ := n
  simp only at *
  have h3 : ((nv : Int) == 1024) = false := by rw [beq_eq_false_iff_ne]; omega
  clear hk
  go_enter Try.func60, Try.ntmps60
  go_wp2_with fail
  refine (get_any H.out k).mono ?_
  rintro e w1 ⟨rfl, hb1⟩
  rw [hgi.out]
  unfold ndv
  have B := Lib.hid (below_alloc hb1 (.cells #[.int .i64 nv, .int .i64 nl, .int .i64 nh] 33))
  have s1 : sb < w1.heap.size := Nat.lt_of_lt_of_le hls hb1.size
  have s2 : vb < w1.heap.size := Nat.lt_of_lt_of_le hlv hb1.size
  have c1' := (hb1.cell (p := ⟨sb, 0, none⟩) hls).trans c1
  have c2' := (hb1.cell (p := ⟨vb, 0, none⟩) hlv).trans c2
  have hlk := run_seen_look (w1.alloc (.cells #[.int .i64 nv, .int .i64 nl, .int .i64 nh] 33)) (HB.out.below B.out).hm k
  have hd : decide (k ∈ S) = false := by simp [hS]
  rw [hd] at hlk
  unfold numv at hlk
  have smb : mb < w1.heap.size := Nat.lt_of_lt_of_le (Array.getElem?_eq_some_iff.1 HB.out.hm).1 hb1.size
  have snb : nb < w1.heap.size := Nat.lt_of_lt_of_le (Array.getElem?_eq_some_iff.1 HB.out.hn).1 hb1.size
  have hbx := heap_alloc_new w1 (.cells #[.int .i64 nv, .int .i64 nl, .int .i64 nh] 33)
  have HBX := Lib.hid hbx
  clear hb1 hd c1 c2 hbx
  go_upto_region 2 with fail
  have HB1 := Lib.hid (HB.out.below B.out)
  have A1 := Lib.hid (H.out.below B.out)
  have x0 := (cells3 HBX.out).1
  have K1 : Keep (SuY mb nb) W (w1.alloc (.cells #[.int .i64 nv, .int .i64 nl, .int .i64 nh] 33)) := Keep.below B.out
  have d1 := (cells1 HB1.out.hs).1
  have d2 := (cells1 HB1.out.hv).1
  have hbn : w1.heap.size ≠ mb ∧ w1.heap.size ≠ nb := ⟨by omega, by omega⟩
  have lbx := (Array.getElem?_eq_some_iff.1 HBX.out).1
  clear hlk c0 c1' c2' s1 s2 smb snb hls hlv
  generalize hbb : w1.heap.size = nbx at *
  generalize w1.alloc (.cells #[.int .i64 nv, .int .i64 nl, .int .i64 nh] 33) = W1 at *
  clear hbb
  have hne := HB1.out.nn
  have hm1 : W1.drew.heap[mb]? = some (mapObj numv boolv (trm S)) := HB1.out.hm
  have hn1 : W1.drew.heap[nb]? = some (mapObj numv boolv (trm U)) := HB1.out.hn
  have lm := (Array.getElem?_eq_some_iff.1 hm1).1
  have ln := (Array.getElem?_eq_some_iff.1 hn1).1
  have f1 := run_seen_store W1.drew hm1 hS
  have f2 := run_vars_store W1.drew hn1 nv
  have k1 : Keep (SzY mb) W1.drew (ChangeMaps.setBlock W1.drew mb (mapObj numv boolv (trm (S ++ [k])))) := set_keepY _ _ _
  have k2 : Keep (SzY nb) W1.drew (ChangeMaps.setBlock W1.drew nb (mapObj numv boolv (trm (addU U nv)))) := set_keepY _ _ _
  have hn2 := (k1.block nb (Ne.symm hne) ln).trans hn1
  have hm2 := (k2.block mb hne lm).trans hm1
  have f3 := run_vars_store _ hn2 nv
  have f4 := run_seen_store _ hm2 hS
  have e1 : (ChangeMaps.setBlock W1.drew mb (mapObj numv boolv (trm (S ++ [k])))).cell? ⟨vb, 0, none⟩ = some (.map (some nb)) := (k1.cell (p := ⟨vb, 0, none⟩) HB1.out.nv.1 (Array.getElem?_eq_some_iff.1 HB1.out.hv).1).trans d2
  have e2 : (ChangeMaps.setBlock W1.drew mb (mapObj numv boolv (trm (S ++ [k])))).cell? ⟨nbx, 0, none⟩ = some (.int .i64 nv) := (k1.cell (p := ⟨nbx, 0, none⟩) hbn.1 lbx).trans x0
  have e3 : (ChangeMaps.setBlock W1.drew nb (mapObj numv boolv (trm (addU U nv)))).cell? ⟨sb, 0, none⟩ = some (.map (some mb)) := (k2.cell (p := ⟨sb, 0, none⟩) HB1.out.ns.2 (Array.getElem?_eq_some_iff.1 HB1.out.hs).1).trans d1
  have e4 : (ChangeMaps.setBlock W1.drew nb (mapObj numv boolv (trm (addU U nv)))).cell? ⟨nbx, 0, none⟩ = some (.int .i64 nv) := (k2.cell (p := ⟨nbx, 0, none⟩) hbn.2 lbx).trans x0
  rw [set_swap _ hne] at f4
  have K3 : Keep (SuY mb nb) W (ChangeMaps.setBlock (ChangeMaps.setBlock W1.drew mb (mapObj numv boolv (trm (S ++ [k])))) nb (mapObj numv boolv (trm (addU U nv)))) := K1.drew.trans (set_keepU _ _ _ _ _)
  have hm3 : (ChangeMaps.setBlock (ChangeMaps.setBlock W1.drew mb (mapObj numv boolv (trm (S ++ [k])))) nb (mapObj numv boolv (trm (addU U nv)))).heap[mb]? = some (mapObj numv boolv (trm (S ++ [k]))) := by
    rw [← set_swap _ hne]; exact set_new (by simpa [ChangeMaps.setBlock] using lm) _
  have hn3 : (ChangeMaps.setBlock (ChangeMaps.setBlock W1.drew mb (mapObj numv boolv (trm (S ++ [k])))) nb (mapObj numv boolv (trm (addU U nv)))).heap[nb]? = some (mapObj numv boolv (trm (addU U nv))) := set_new (by simpa [ChangeMaps.setBlock] using ln) _
  have hbx3 : (ChangeMaps.setBlock (ChangeMaps.setBlock W1.drew mb (mapObj numv boolv (trm (S ++ [k])))) nb (mapObj numv boolv (trm (addU U nv)))).heap[nbx]? = _ := ((set_keepU W1.drew mb nb _ _).block nbx hbn lbx).trans HBX.out
  have hK : Keep (SuY mb nb) W1 (ChangeMaps.setBlock (ChangeMaps.setBlock W1.drew mb (mapObj numv boolv (trm (S ++ [k])))) nb (mapObj numv boolv (trm (addU U nv)))) := (Keep.refl _ W1).drew.trans (set_keepU _ _ _ _ _)
  generalize ChangeMaps.setBlock (ChangeMaps.setBlock W1.drew mb (mapObj numv boolv (trm (S ++ [k])))) nb (mapObj numv boolv (trm (addU U nv))) = W3 at *
  generalize ChangeMaps.setBlock W1.drew mb (mapObj numv boolv (trm (S ++ [k]))) = V1 at *
  generalize ChangeMaps.setBlock W1.drew nb (mapObj numv boolv (trm (addU U nv))) = V2 at *
  have B3 := Lib.hid (HB1.out.keep hK hm3 hn3)
  have A3 := Lib.hid (A1.out.keepU hx hK)
  have BX3 := Lib.hid hbx3
  have K33 := Lib.hid K3
  unfold numv at f1 f2 f3 f4
  clear k1 k2 hm1 hn1 hn2 hm2 hm3 hn3 hbx3 K3 hK K1 lm ln
  go_region
  clear f1 f2 f3 f4 e1 e2 e3 e4 d1 d2 x0
  obtain ⟨x0, x1, x2, -, -, -⟩ := cells3 BX3.out
  obtain ⟨y0, -⟩ := cells1 B3.out.hi
  go_wp2_with fail
  refine (I1.out W3 A3.out B3.out).mono ?_
  rintro e W4 ⟨rfl, hk, hb⟩
  have BX4 := Lib.hid ((hk.block nbx hbn (Array.getElem?_eq_some_iff.1 BX3.out).1).trans BX3.out)
  have A4 := Lib.hid (A3.out.keepU hx hk)
  have B4 := Lib.hid hb
  have K4 := Lib.hid (K33.out.trans hk)
  obtain ⟨x0, x1, x2, -, -, -⟩ := cells3 BX4.out
  obtain ⟨y0, -⟩ := cells1 hb.hi
  clear hk hb
  go_wp2_with fail
  refine (I2.out W4 A4.out B4.out).mono ?_
  rintro e W5 ⟨rfl, hk, hb⟩
  have K5 := Lib.hid (And.intro (K4.out.trans hk) hb)
  clear hk hb
  go_wp2_with fail
  go_end0
  exact ⟨rfl, K5.out.1, K5.out.2⟩

theorem su_all {X : Nat → Prop} {a ab sb vb ib mb nb : Nat} {ns : List Nd} {most : Nat} (hx : X mb ∧ X nb) (WN : WF ns) (k : Nat) : k < ns.length → ∀ (W : World) (S U : List Nat), Ar W X a ns most → SuBox W a ab sb vb ib mb nb S U →
    Calls Try.prog 60 #[.int .i64 k, .pointer (some ⟨ab, 0, none⟩), .pointer (some ⟨sb, 0, none⟩), .pointer (some ⟨vb, 0, none⟩), .pointer (some ⟨ib, 0, none⟩)] W (SuPost a ab sb vb ib mb nb W (visitU ns k S U)) := by
  induction k using Nat.strongRecOn with
  | ind k ih =>
    intro hk W S U hA hB
    rw [visitU]
    by_cases h2 : 2 ≤ k
    · have hin := WN.inner k h2 hk
      have hv : var ns k ≠ 1024 := by unfold var; omega
      by_cases hS : k ∈ S
      · rw [dif_neg (fun q => q.2.1 hS)]
        exact su_seen hA hB k hv hS
      · rw [dif_pos ⟨h2, hS, hin.2.1, hin.2.2.1⟩]
        exact su_go hA hx hB k hv hS (fun W' hA' hB' => ih _ hin.2.1 (by omega) W' _ _ hA' hB') (fun W' hA' hB' => ih _ hin.2.2.1 (by omega) W' _ _ hA' hB')
    · rw [dif_neg (fun q => h2 q.1)]
      exact su_leaf hA hB k ((var_last WN hk).2 (by omega))
end Go.Proofs.Ytbceacihkdmgkaa
