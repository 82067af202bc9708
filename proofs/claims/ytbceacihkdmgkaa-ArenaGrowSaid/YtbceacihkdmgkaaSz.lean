import Derived.Test.YtbceacihkdmgkaaAlg
import Derived.Test.YtbceacihkdmgkaaVis
set_option linter.unusedVariables false
namespace Go.Proofs.Ytbceacihkdmgkaa
open Go.RowKit Mq

def trm (S : List Nat) : List (Nat × Bool) := S.map fun x => (x, true)
def boolv (b : Bool) : Value := .bool b
theorem look_trm (k : Nat) (S : List Nat) : Mq.look k (trm S) = if k ∈ S then some true else none := by
  induction S with
  | nil => rfl
  | cons x l ih =>
    simp only [trm, List.map_cons, Mq.look]
    by_cases h : x = k
    · subst h; simp
    · rw [if_neg h]
      have := ih
      unfold trm at this
      rw [this]
      simp [Ne.symm h]
theorem put_trm {k : Nat} {S : List Nat} (h : k ∉ S) : Mq.put k true (trm S) = trm (S ++ [k]) := by
  have hl : Mq.look k (trm S) = none := by rw [look_trm, if_neg h]
  rw [put_new hl]
  simp [trm]
theorem key_nat : KeyT numv Try.prog 3 := KeyT.of_now Try.underlying3 (fun x => rfl) (fun x y => by
  simp only [Instr.sameNow, numv]
  rw [show decide (x = y) = ((x : Int) == (y : Int)) by rw [Bool.eq_iff_iff]; simp; omega]
  rfl)
theorem run_seen_look (w : World) {mb : Nat} {S : List Nat} (h : w.heap[mb]? = some (mapObj numv boolv (trm S))) (k : Nat) :
    (Instr.lookup 80 (.map (some mb)) (numv k) false).run Try.prog w = .ok (.bool (decide (k ∈ S))) w := by
  have := run_look key_nat (e := 4) Try.underlying80 (z := false) (encv := boolv) (fun w => by kernel_rfl) w h k false
  rw [look_trm] at this
  refine this.trans ?_
  by_cases hk : k ∈ S <;> simp [hk, boolv]
theorem run_seen_store (w : World) {mb : Nat} {S : List Nat} (h : w.heap[mb]? = some (mapObj numv boolv (trm S))) {k : Nat} (hk : k ∉ S) :
    (Instr.mapUpdate 80 (.map (some mb)) (numv k) (.bool true)).run Try.prog w = .ok () (ChangeMaps.setBlock w mb (mapObj numv boolv (trm (S ++ [k])))) := by
  have := Mq.run_store key_nat Try.underlying80 (encv := boolv) w h k true
  rw [put_trm hk] at this
  exact this

/-- The walk's boxes: the arena's, the set's, its own. -/
structure SzBox (W : World) (a ab sb ib mb : Nat) (S : List Nat) : Prop where
  ha : W.heap[ab]? = some (.cells #[.pointer (some ⟨a, 0, none⟩)] 24 (0, 0))
  hs : W.heap[sb]? = some (.cells #[.map (some mb)] 80 (0, 0))
  hi : W.heap[ib]? = some (.cells #[.func (.func 59) #[] #[.pointer (some ⟨ab, 0, none⟩), .pointer (some ⟨sb, 0, none⟩), .pointer (some ⟨ib, 0, none⟩)]] 81 (0, 0))
  hm : W.heap[mb]? = some (mapObj numv boolv (trm S))
  na : ab ≠ mb
  nsb : sb ≠ mb
  ni : ib ≠ mb
def SzY (mb : Nat) (k : Nat) : Prop := k ≠ mb
theorem SzBox.keep {W W' : World} {a ab sb ib mb : Nat} {S S' : List Nat} (h : SzBox W a ab sb ib mb S) (hk : Keep (SzY mb) W W') (hm : W'.heap[mb]? = some (mapObj numv boolv (trm S'))) : SzBox W' a ab sb ib mb S' :=
  { h with ha := (hk.block _ h.na (Array.getElem?_eq_some_iff.1 h.ha).1).trans h.ha, hs := (hk.block _ h.nsb (Array.getElem?_eq_some_iff.1 h.hs).1).trans h.hs, hi := (hk.block _ h.ni (Array.getElem?_eq_some_iff.1 h.hi).1).trans h.hi, hm := hm }
theorem SzBox.below {W W' : World} {a ab sb ib mb : Nat} {S : List Nat} (h : SzBox W a ab sb ib mb S) (hb : Below W.heap.size W W') : SzBox W' a ab sb ib mb S :=
  h.keep (Keep.below hb) (blk_below hb h.hm (Array.getElem?_eq_some_iff.1 h.hm).1)
/-- The arena stays in sight. -/
theorem Ar.keepY {W W' : World} {X : Nat → Prop} {a mb : Nat} {ns : List Nd} {most : Nat} (h : Ar W X a ns most) (hx : X mb) (hk : Keep (SzY mb) W W') : Ar W' X a ns most := by
  obtain ⟨sb, g, cap, cur, h⟩ := h
  exact ⟨sb, g, cap, cur, h.moved (fun k hk1 hk2 => hk.block k (by rintro rfl; exact h.not_x hk2 hx) hk1) (fun k hk1 => Nat.lt_of_lt_of_le (h.low k hk1) hk.size) (fun k _ hk => h.not_x hk)⟩
def SzPost (a ab sb ib mb : Nat) (W : World) (S' : List Nat) (e : Ending) (W' : World) : Prop := e = .returned (.tuple #[]) ∧ Keep (SzY mb) W W' ∧ SzBox W' a ab sb ib mb S'

set_option maxRecDepth 100000 in
theorem sz_leaf {W : World} {X : Nat → Prop} {a ab sb ib mb : Nat} {ns : List Nd} {most : Nat} {S : List Nat} (h : Ar W X a ns most) (hB : SzBox W a ab sb ib mb S) (k : Nat) (hk : var ns k = 1024) :
    Calls Try.prog 59 #[.int .i64 k, .pointer (some ⟨ab, 0, none⟩), .pointer (some ⟨sb, 0, none⟩), .pointer (some ⟨ib, 0, none⟩)] W (SzPost a ab sb ib mb W S) := by
  obtain ⟨c0, -⟩ := cells1 hB.ha
  have H := Lib.hid h
  have HB := Lib.hid hB
  have hgi := Lib.hid (geti_nat ns k)
  clear h hB
  unfold var at hk
  generalize nd ns k = n at *
  obtain ⟨nv, nl, nh⟩ := n
  simp only at hk
  subst hk
  go_enter Try.func59, Try.ntmps59
  go_wp2_with fail
  refine (get_any H.out k).mono ?_
  rintro e w1 ⟨rfl, hb1⟩
  rw [hgi.out]
  unfold ndv
  have B := Lib.hid hb1
  clear hb1
  go_wp2_with fail
  go_end0
  exact ⟨rfl, Keep.below (below_alloc B.out _), HB.out.below (below_alloc B.out _)⟩

set_option maxRecDepth 100000 in
theorem sz_seen {W : World} {X : Nat → Prop} {a ab sb ib mb : Nat} {ns : List Nd} {most : Nat} {S : List Nat} (h : Ar W X a ns most) (hB : SzBox W a ab sb ib mb S) (k : Nat) (hk : var ns k ≠ 1024) (hS : k ∈ S) :
    Calls Try.prog 59 #[.int .i64 k, .pointer (some ⟨ab, 0, none⟩), .pointer (some ⟨sb, 0, none⟩), .pointer (some ⟨ib, 0, none⟩)] W (SzPost a ab sb ib mb W S) := by
  obtain ⟨c0, -⟩ := cells1 hB.ha
  obtain ⟨c1, -⟩ := cells1 hB.hs
  have H := Lib.hid h
  have HB := Lib.hid hB
  have hls := (Array.getElem?_eq_some_iff.1 hB.hs).1
  have hgi := Lib.hid (geti_nat ns k)
  clear h hB
  unfold var at hk
  generalize nd ns k = n at *
  obtain ⟨nv, nl, nh⟩ := n
  simp only at hk
  have h3 : ((nv : Int) != 1024) = true := by rw [bne_iff_ne]; omega
  clear hk
  go_enter Try.func59, Try.ntmps59
  go_wp2_with fail
  refine (get_any H.out k).mono ?_
  rintro e w1 ⟨rfl, hb1⟩
  rw [hgi.out]
  unfold ndv
  have B := Lib.hid hb1
  have s1 : sb < w1.heap.size := Nat.lt_of_lt_of_le hls hb1.size
  have c1' := (hb1.cell (p := ⟨sb, 0, none⟩) hls).trans c1
  have hlk := run_seen_look (w1.alloc (.cells #[.int .i64 nv, .int .i64 nl, .int .i64 nh] 33)) (HB.out.below (below_alloc hb1 _)).hm k
  have hd : decide (k ∈ S) = true := by simp [hS]
  rw [hd] at hlk
  unfold numv at hlk
  clear hb1 hd c1
  go_wp2_with fail
  go_end0
  exact ⟨rfl, Keep.below (below_alloc B.out _), HB.out.below (below_alloc B.out _)⟩

theorem SzBox.mlt {W : World} {a ab sb ib mb : Nat} {S : List Nat} (h : SzBox W a ab sb ib mb S) : mb < W.heap.size := (Array.getElem?_eq_some_iff.1 h.hm).1
theorem set_keepY (W : World) (mb : Nat) (o : Obj) : Keep (SzY mb) W (ChangeMaps.setBlock W mb o) := keep_setBlock (fun h => h rfl) o
theorem set_new {W : World} {mb : Nat} (h : mb < W.heap.size) (o : Obj) : (ChangeMaps.setBlock W mb o).heap[mb]? = some o := by simp [ChangeMaps.setBlock, h]
set_option maxRecDepth 100000 in
set_option maxHeartbeats 1000000 in
theorem sz_go {W : World} {X : Nat → Prop} {a ab sb ib mb : Nat} {ns : List Nd} {most : Nat} {S S1 S2 : List Nat} (h : Ar W X a ns most) (hx : X mb) (hB : SzBox W a ab sb ib mb S) (k : Nat) (hk : var ns k ≠ 1024) (hS : k ∉ S)
    (i1 : ∀ W', Ar W' X a ns most → SzBox W' a ab sb ib mb (S ++ [k]) → Calls Try.prog 59 #[.int .i64 (nd ns k).lo, .pointer (some ⟨ab, 0, none⟩), .pointer (some ⟨sb, 0, none⟩), .pointer (some ⟨ib, 0, none⟩)] W' (SzPost a ab sb ib mb W' S1))
    (i2 : ∀ W', Ar W' X a ns most → SzBox W' a ab sb ib mb S1 → Calls Try.prog 59 #[.int .i64 (nd ns k).hi, .pointer (some ⟨ab, 0, none⟩), .pointer (some ⟨sb, 0, none⟩), .pointer (some ⟨ib, 0, none⟩)] W' (SzPost a ab sb ib mb W' S2)) :
    Calls Try.prog 59 #[.int .i64 k, .pointer (some ⟨ab, 0, none⟩), .pointer (some ⟨sb, 0, none⟩), .pointer (some ⟨ib, 0, none⟩)] W (SzPost a ab sb ib mb W S2) := by
  obtain ⟨c0, -⟩ := cells1 hB.ha
  obtain ⟨c1, -⟩ := cells1 hB.hs
  have H := Lib.hid h
  have HB := Lib.hid hB
  have I1 := Lib.hid i1
  have I2 := Lib.hid i2
  have hls := (Array.getElem?_eq_some_iff.1 hB.hs).1
  have hgi := Lib.hid (geti_nat ns k)
  clear h hB i1 i2
  unfold var at hk
  generalize nd ns k = n at *
  obtain ⟨nv, nl, nh⟩ := n
  simp only at *
  have h3 : ((nv : Int) != 1024) = true := by rw [bne_iff_ne]; omega
  clear hk
  go_enter Try.func59, Try.ntmps59
  go_wp2_with fail
  refine (get_any H.out k).mono ?_
  rintro e w1 ⟨rfl, hb1⟩
  rw [hgi.out]
  unfold ndv
  have B := Lib.hid (below_alloc hb1 (.cells #[.int .i64 nv, .int .i64 nl, .int .i64 nh] 33))
  have s1 : sb < w1.heap.size := Nat.lt_of_lt_of_le hls hb1.size
  have c1' := (hb1.cell (p := ⟨sb, 0, none⟩) hls).trans c1
  have hlk := run_seen_look (w1.alloc (.cells #[.int .i64 nv, .int .i64 nl, .int .i64 nh] 33)) (HB.out.below B.out).hm k
  have hd : decide (k ∈ S) = false := by simp [hS]
  rw [hd] at hlk
  have hst := run_seen_store (w1.alloc (.cells #[.int .i64 nv, .int .i64 nl, .int .i64 nh] 33)) (HB.out.below B.out).hm hS
  unfold numv at hlk hst
  rw [show (fun x : Nat => Value.int .i64 (x : Int)) = numv from rfl] at hst
  have HST := Lib.hid hst
  have hbx := heap_alloc_new w1 (.cells #[.int .i64 nv, .int .i64 nl, .int .i64 nh] 33)
  have HBX := Lib.hid hbx
  have smb : mb < w1.heap.size := Nat.lt_of_lt_of_le HB.out.mlt hb1.size
  clear hb1 hd c1 hst hbx
  go_wp2_with fail
  rw [HST.out]
  clear hlk HST c0 c1'
  have KB := Lib.hid (set_keepY (w1.alloc (.cells #[.int .i64 nv, .int .i64 nl, .int .i64 nh] 33)) mb (mapObj numv boolv (trm (S ++ [k]))))
  have B2 : SzBox (ChangeMaps.setBlock (w1.alloc (.cells #[.int .i64 nv, .int .i64 nl, .int .i64 nh] 33)) mb (mapObj numv boolv (trm (S ++ [k])))) a ab sb ib mb (S ++ [k]) :=
    (HB.out.below B.out).keep KB.out (set_new (by simp; omega) _)
  have BX2 := (KB.out.block w1.heap.size (show w1.heap.size ≠ mb by omega) (by simp)).trans HBX.out
  have A2 := ((H.out.below B.out).keepY hx KB.out)
  have K2 := (Keep.below (X := SzY mb) B.out).trans KB.out
  generalize ChangeMaps.setBlock (w1.alloc (.cells #[.int .i64 nv, .int .i64 nl, .int .i64 nh] 33)) mb (mapObj numv boolv (trm (S ++ [k]))) = W2 at *
  have AA2 := Lib.hid A2
  have BB2 := Lib.hid B2
  have KK2 := Lib.hid K2
  have BBX2 := Lib.hid BX2
  obtain ⟨x0, x1, x2, -, -, -⟩ := cells3 BX2
  obtain ⟨y0, -⟩ := cells1 B2.hi
  clear A2 B2 K2 BX2 KB B HBX
  go_wp2_with fail
  refine (I1.out W2 AA2.out BB2.out).mono ?_
  rintro e W3 ⟨rfl, hk, hb⟩
  have BX3 := (hk.block w1.heap.size (show w1.heap.size ≠ mb by omega) (Array.getElem?_eq_some_iff.1 BBX2.out).1).trans BBX2.out
  have AA3 := Lib.hid (AA2.out.keepY hx hk)
  have BB3 := Lib.hid hb
  have KK3 := Lib.hid (KK2.out.trans hk)
  obtain ⟨x0, x1, x2, -, -, -⟩ := cells3 BX3
  obtain ⟨y0, -⟩ := cells1 hb.hi
  clear hk hb BX3
  go_wp2_with fail
  refine (I2.out W3 AA3.out BB3.out).mono ?_
  rintro e W4 ⟨rfl, hk, hb⟩
  have KK4 := Lib.hid (And.intro (KK3.out.trans hk) hb)
  clear hk hb
  go_wp2_with fail
  go_end0
  exact ⟨rfl, KK4.out.1, KK4.out.2⟩

theorem sz_all {X : Nat → Prop} {a ab sb ib mb : Nat} {ns : List Nd} {most : Nat} (hx : X mb) (WN : WF ns) (k : Nat) : k < ns.length → ∀ (W : World) (S : List Nat), Ar W X a ns most → SzBox W a ab sb ib mb S →
    Calls Try.prog 59 #[.int .i64 k, .pointer (some ⟨ab, 0, none⟩), .pointer (some ⟨sb, 0, none⟩), .pointer (some ⟨ib, 0, none⟩)] W (SzPost a ab sb ib mb W (visit ns k S)) := by
  induction k using Nat.strongRecOn with
  | ind k ih =>
    intro hk W S hA hB
    rw [visit]
    by_cases h2 : 2 ≤ k
    · have hin := WN.inner k h2 hk
      have hv : var ns k ≠ 1024 := by unfold var; omega
      by_cases hS : k ∈ S
      · rw [dif_neg (fun q => q.2.1 hS)]
        exact sz_seen hA hB k hv hS
      · rw [dif_pos ⟨h2, hS, hin.2.1, hin.2.2.1⟩]
        exact sz_go hA hx hB k hv hS (fun W' hA' hB' => ih _ hin.2.1 (by omega) W' _ hA' hB') (fun W' hA' hB' => ih _ hin.2.2.1 (by omega) W' _ hA' hB')
    · rw [dif_neg (fun q => h2 q.1)]
      exact sz_leaf hA hB k ((var_last WN hk).2 (by omega))

theorem run_len_seen {w : World} {mb : Nat} {S : List Nat} (h : w.heap[mb]? = some (mapObj numv boolv (trm S))) (ty : TypeId) :
    (Builtin.len_ #[80] ty #[.map (some mb)]).run Try.prog w = .ok (.int .i64 (S.length : Nat)) w := by
  have hg := MapKept.run_getObj_map (P := Try.prog) h
  simp [Builtin.len_, run_underlying Try.underlying80, hg, goInt, ent_length, trm]
theorem below_of_keepY {w W w' : World} (h : Below w.heap.size w W) {mb : Nat} (hk : Keep (SzY mb) W w') (hm : w.heap.size ≤ mb := by omega) : Below w.heap.size w w' :=
  ⟨hk.os.trans h.os, hk.tape.trans h.tape, hk.output.trans h.output, Nat.le_trans h.size hk.size, fun k hk1 => (hk.block k (show k ≠ mb by omega) (Nat.lt_of_lt_of_le hk1 h.size)).trans (h.block k hk1)⟩
theorem heap4 (w : World) (o1 o2 o3 o4 : Obj) : ((((w.alloc o1).alloc o2).alloc o3).alloc o4).heap[w.heap.size]? = some o1 ∧ ((((w.alloc o1).alloc o2).alloc o3).alloc o4).heap[w.heap.size + 1]? = some o2 ∧
    ((((w.alloc o1).alloc o2).alloc o3).alloc o4).heap[w.heap.size + 1 + 1]? = some o3 ∧ ((((w.alloc o1).alloc o2).alloc o3).alloc o4).heap[w.heap.size + 1 + 1 + 1]? = some o4 ∧ ((((w.alloc o1).alloc o2).alloc o3).alloc o4).heap.size = w.heap.size + 4 := by
  obtain ⟨h1, h2, h3, h4⟩ := heap3 w o1 o2 o3
  refine ⟨?_, ?_, ?_, ?_, by simp⟩
  · rw [Below.heap_alloc _ _ _ (by rw [h4]; omega)]; exact h1
  · rw [Below.heap_alloc _ _ _ (by rw [h4]; omega)]; exact h2
  · rw [Below.heap_alloc _ _ _ (by rw [h4]; omega)]; exact h3
  · have := heap_alloc_new (((w.alloc o1).alloc o2).alloc o3) o4
    rw [h4] at this; exact this
set_option maxRecDepth 100000 in
set_option maxHeartbeats 1000000 in
theorem tsize_any {w : World} {X : Nat → Prop} {a : Nat} {ns : List Nd} {most : Nat} (h : Ar w X a ns most) (f : Nat) (hf : f < ns.length) :
    Calls Try.prog 40 #[.pointer (some ⟨a, 0, none⟩), .int .i64 f] w fun e w' => e = .returned (.int .i64 ((visit ns f []).length : Nat)) ∧ Below w.heap.size w w' := by
  have hmm := @run_makeMap Try.prog
  have H := Lib.hid h
  clear h
  go_enter Try.func40, Try.ntmps40
  go_wp2_with fail
  obtain ⟨e1, e2, e3, e4, e5⟩ := heap4 w (.cells #[.pointer (some ⟨a, 0, none⟩)] 24) (.map #[] 0) (.cells #[.map (some (w.heap.size + 1))] 80)
    (.cells #[.func (.func 59) #[] #[.pointer (some ⟨w.heap.size, 0, none⟩), .pointer (some ⟨w.heap.size + 1 + 1, 0, none⟩), .pointer (some ⟨w.heap.size + 1 + 1 + 1, 0, none⟩)]] 81)
  have hB := below_alloc (below_alloc (below_alloc (below_alloc (Below.refl w.heap.size w) (.cells #[.pointer (some ⟨a, 0, none⟩)] 24)) (.map #[] 0)) (.cells #[.map (some (w.heap.size + 1))] 80))
    (.cells #[.func (.func 59) #[] #[.pointer (some ⟨w.heap.size, 0, none⟩), .pointer (some ⟨w.heap.size + 1 + 1, 0, none⟩), .pointer (some ⟨w.heap.size + 1 + 1 + 1, 0, none⟩)]] 81)
  have hA := H.out.below_more hB
  generalize ((((w.alloc (.cells #[.pointer (some ⟨a, 0, none⟩)] 24)).alloc (.map #[] 0)).alloc (.cells #[.map (some (w.heap.size + 1))] 80)).alloc
    (.cells #[.func (.func 59) #[] #[.pointer (some ⟨w.heap.size, 0, none⟩), .pointer (some ⟨w.heap.size + 1 + 1, 0, none⟩), .pointer (some ⟨w.heap.size + 1 + 1 + 1, 0, none⟩)]] 81)) = W at *
  have BX : SzBox W a w.heap.size (w.heap.size + 1 + 1) (w.heap.size + 1 + 1 + 1) (w.heap.size + 1) [] := ⟨e1, e3, e4, e2, by omega, by omega, by omega⟩
  have hx : X (w.heap.size + 1) ∨ w.heap.size ≤ w.heap.size + 1 ∧ w.heap.size + 1 < W.heap.size := .inr ⟨by omega, by omega⟩
  refine (sz_all (X := fun k => X k ∨ w.heap.size ≤ k ∧ k < W.heap.size) hx H.out.wf f hf W [] hA BX).mono ?_
  rintro e w1 ⟨rfl, hk, hb⟩
  have P := Lib.hid (And.intro (And.intro hB hk) hb)
  have hm := hb.hm
  obtain ⟨c1, -⟩ := cells1 hb.hs
  have hln := run_len_seen hm 3
  clear hB hk hb hA BX hx e1 e2 e3 e4 e5 hmm hm
  go_wp2_with fail
  go_ret
  exact ⟨rfl, below_of_keepY P.out.1.1 P.out.1.2⟩
end Go.Proofs.Ytbceacihkdmgkaa
