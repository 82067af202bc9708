import Derived.Test.YtbceacihkdmgkaaDoorCmp
import Derived.Test.YtbceacihkdmgkaaDoorNum
import Derived.Test.YtbceacihkdmgkaaDoorCl
set_option linter.unusedVariables false
namespace Go.Proofs.YtbceacihkdmgkaaDoor
open Go.RowKit Mq

def leafOf (f : Int) : Nat := if f = 1 then 1 else 0
section
variable {w : World} {X : Nat → Prop} {a : Nat} {ns : List Nd} {most : Nat}
set_option maxRecDepth 100000 in
set_option maxHeartbeats 1000000 in
/-- Restrict, of no or yes, or of a number that is no node's. -/
theorem rst_leafZ (h : Ar w X a ns most) (f v : Int) (b : Bool) (hf : f < 2 ∨ (ns.length : Int) ≤ f) :
    Calls Tryd.prog 27 #[.pointer (some ⟨a, 0, none⟩), .int .i64 f, .int .i64 v, .bool b] w fun e w' => e = .returned (.tuple #[.int .i64 (leafOf f : Nat), .nilIface]) ∧ Below w.heap.size w w' := by
  have H := Lib.hid h
  have hle := h.len_le
  have h2 := h.wf.two
  have hz := h.wf.zero
  have ho := h.wf.one
  clear h
  by_cases h1 : f < 0
  · have hL := Lib.hid (show leafOf f = 0 by unfold leafOf; rw [if_neg (by omega)])
    clear hf hz ho
    go_enter Tryd.func27, Tryd.ntmps27
    go_wp2_with fail
    refine (get_any H.out f).mono ?_
    rintro e w1 ⟨rfl, hb1⟩
    have B := Lib.hid hb1
    generalize geti ns f = q at *
    obtain ⟨nv, nl, nh⟩ := q
    unfold ndv
    clear hb1
    go_wp2_with fail
    go_ret2
    exact ⟨by rw [hL.out]; rfl, below_alloc B.out _⟩
  · by_cases h3 : (ns.length : Int) ≤ f
    · have hL := Lib.hid (show leafOf f = 0 by unfold leafOf; rw [if_neg (by omega)])
      clear hf hz ho
      go_enter Tryd.func27, Tryd.ntmps27
      go_wp2_with fail
      refine (get_any H.out f).mono ?_
      rintro e w1 ⟨rfl, hb1⟩
      have B := Lib.hid hb1
      generalize geti ns f = q at *
      obtain ⟨nv, nl, nh⟩ := q
      unfold ndv
      clear hb1
      go_wp2_with fail
      refine (len_any (H.out.below (below_alloc B.out _))).mono ?_
      rintro e w2 ⟨rfl, rfl⟩
      go_wp2_with fail
      go_ret2
      exact ⟨by rw [hL.out]; rfl, below_alloc B.out _⟩
    · have h4 : f = 0 ∨ f = 1 := by omega
      have hL := Lib.hid (show (leafOf f : Int) = f by rcases h4 with rfl | rfl <;> rfl)
      have hgi := Lib.hid (show ∃ l i, geti ns f = ⟨1024, l, i⟩ by
        rcases h4 with rfl | rfl
        · exact ⟨0, 0, by have := geti_nat ns 0; rw [hz] at this; exact this⟩
        · exact ⟨1, 1, by have := geti_nat ns 1; rw [ho] at this; exact this⟩)
      clear hf hz ho h4
      go_enter Tryd.func27, Tryd.ntmps27
      go_wp2_with fail
      refine (get_any H.out f).mono ?_
      rintro e w1 ⟨rfl, hb1⟩
      have B := Lib.hid hb1
      obtain ⟨l, i, hq⟩ := hgi.out
      rw [hq]
      unfold ndv
      clear hb1 hq
      go_wp2_with fail
      refine (len_any (H.out.below (below_alloc B.out _))).mono ?_
      rintro e w2 ⟨rfl, rfl⟩
      go_wp2_with fail
      go_ret2
      exact ⟨by rw [hL.out]; rfl, below_alloc B.out _⟩
theorem leafOf_le (f : Int) : leafOf f ≤ 1 := by unfold leafOf; split <;> omega
theorem dep_leaf (ns : List Nd) (f : Int) : Dep 4 ns (leafOf f) := by
  unfold leafOf; split
  · exact dep_one ns
  · exact dep_zero ns
set_option maxRecDepth 100000 in
set_option maxHeartbeats 1000000 in
theorem cmpSome_leaf (h : Ar w X a ns most) (f v : Int) (hf : f < 2 ∨ (ns.length : Int) ≤ f) (hroom : ns.length + 2 ≤ most) :
    Calls Tryd.prog 28 #[.pointer (some ⟨a, 0, none⟩), .int .i64 f, .int .i64 v] w fun e w' => e = .returned (.tuple #[.int .i64 (leafOf f : Nat), .nilIface]) ∧ Keep X w w' := by
  have H := Lib.hid h
  have R1 := Lib.hid (fun (W : World) (hA : Ar W X a ns most) => rst_leafZ hA f v true hf)
  have R2 := Lib.hid (fun (W : World) (hA : Ar W X a ns most) => rst_leafZ hA f v false hf)
  have hl := Lib.hid (leafOf_le f)
  have hd := Lib.hid (dep_leaf ns f)
  have h2 := Lib.hid h.wf.two
  have HR := Lib.hid hroom
  have HV : Hid (4 ≤ var ns (leafOf f)) := Lib.hid (by
    have := (var_last h.wf (k := leafOf f) (by have := leafOf_le f; have := h.wf.two; omega)).2 (by have := leafOf_le f; omega)
    omega)
  clear h hf hroom
  generalize leafOf f = x at *
  go_enter Tryd.func28, Tryd.ntmps28
  go_wp2_with fail
  refine (R1.out _ H.out).mono ?_
  rintro e w1 ⟨rfl, hb1⟩
  have A1 := Lib.hid (H.out.below hb1)
  have K1 := Lib.hid (Keep.below (X := X) hb1)
  clear hb1
  go_wp2_with fail
  refine (R2.out _ A1.out).mono ?_
  rintro e w2 ⟨rfl, hb2⟩
  have A2 := Lib.hid (A1.out.below hb2)
  have K2 := Lib.hid (K1.out.trans (Keep.below (X := X) hb2))
  clear hb2
  go_wp2_with fail
  refine (or_at A2.out x x (by have := hl.out; have := h2.out; omega) (by have := hl.out; have := h2.out; omega) hd.out hd.out 0 4 rfl HV.out HV.out).mono ?_
  rintro e w3 ⟨ns3, k, err, rfl, hA, hK, hX, hc⟩
  rcases hc with ⟨rfl, hdd⟩ | ⟨rfl, rfl, hfull⟩
  rotate_left
  · exfalso
    have := hfull.1
    have := HR.out
    simp at *
    omega
  have hx : k = x := canon hdd.wf hdd.lt (Nat.lt_of_lt_of_le (by have := hl.out; have := h2.out; omega) hX.length) fun r => by
    rw [hdd.ev, hX.ev H.out.wf r x (by have := hl.out; have := h2.out; omega)]; simp
  subst hx
  have K3 := Lib.hid (K2.out.trans hK)
  have he : errv 0 = .nilIface := rfl
  rw [he]
  clear he hA hK hX hdd
  go_wp2_with fail
  go_ret2
  exact ⟨rfl, K3.out⟩
end
set_option maxRecDepth 100000 in
set_option maxHeartbeats 1000000 in
theorem walk_ComposeNone (f v : Int) (b : Bool) (w : World) (hf : is64 f) (hv : is64 v) (hg : ErrG w) :
    Calls Tryd.prog 8 #[.int .i64 f, .int .i64 v, .bool b] w fun e w' => e = .returned (.bool true) ∧ Below w.heap.size w w' := by
  have G := Lib.hid hg; clear hg
  go_enter Tryd.func8, Tryd.ntmps8
  go_wp2_with fail
  refine (awake3 w).mono ?_
  rintro e w1 ⟨rfl, hb⟩
  have B1 := Lib.hid hb; clear hb
  go_wp2_with fail
  refine (of_any w1 20 20 (by decide)).mono ?_
  rintro e w2 ⟨a, rfl, hA, hk, hle⟩
  have A2 := Lib.hid hA; have K2 := Lib.hid hk; clear hA hk hle
  have hf2 : f < 2 ∨ (([no, yes] : List Nd).length : Int) ≤ f := by simp; omega
  have HF2 := Lib.hid hf2; clear hf2
  go_wp2_with fail
  refine (rst_leafZ A2.out f v b HF2.out).mono ?_
  rintro e w3 ⟨rfl, hb⟩
  have A3 := Lib.hid (A2.out.below hb); have K3 := Lib.hid (K2.out.trans (Keep.below hb)); clear hb
  by_cases h1 : f = 1
  · subst h1
    have hL : ((leafOf 1 : Nat) : Int) = 1 := rfl
    rw [hL]
    clear hL
    go_wp2_with fail
    refine (cmpSome_leaf A3.out 1 v HF2.out (by simp)).mono ?_
    rintro e w4 ⟨rfl, hk⟩
    have K4 := Lib.hid (K3.out.trans hk); clear hk
    have hL : ((leafOf 1 : Nat) : Int) = 1 := rfl
    rw [hL]
    clear hL
    go_wp2_with fail
    refine (number_nil w4).mono ?_
    rintro e w5 ⟨rfl, hb⟩
    have B5 := Lib.hid (below_trans B1.out (below_trans (below_of_keep K4.out) hb)); clear hb
    go_wp2_with fail
    go_ret
    exact ⟨ret_bool (by simp), B5.out⟩
  · have hL : ((leafOf f : Nat) : Int) = 0 := by unfold leafOf; rw [if_neg h1]; rfl
    have HL := Lib.hid hL
    rw [hL]
    clear hL
    have hne : (f == 1) = false := by rw [beq_eq_false_iff_ne]; exact h1
    clear h1
    go_wp2_with fail
    refine (cmpSome_leaf A3.out f v HF2.out (by simp)).mono ?_
    rintro e w4 ⟨rfl, hk⟩
    have K4 := Lib.hid (K3.out.trans hk); clear hk
    rw [HL.out]
    go_wp2_with fail
    refine (number_nil w4).mono ?_
    rintro e w5 ⟨rfl, hb⟩
    have B5 := Lib.hid (below_trans B1.out (below_trans (below_of_keep K4.out) hb)); clear hb
    go_wp2_with fail
    go_ret
    exact ⟨ret_bool (by simp), B5.out⟩
end Go.Proofs.YtbceacihkdmgkaaDoor
