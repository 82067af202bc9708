import Derived.Test.YtbceacihkdmgkaaEvalW
import Derived.Test.YtbceacihkdmgkaaBdi
import Derived.Deep.RegionHeld3
import Derived.Deep.DeepCutAuto
set_option linter.unusedVariables false
namespace Go.Proofs.Ytbceacihkdmgkaa
open Go.RowKit Mq

def keyv (k : Key) : Value := .agg #[.int .i64 k.f, .int .i64 k.g, .int .i64 k.h]
theorem eq_key3 (w : World) (d : Nat) (x0 x1 x2 y0 y1 y2 : Int) : (Op.equalIn (d + 2) 84 (.agg #[.int .i64 x0, .int .i64 x1, .int .i64 x2]) (.agg #[.int .i64 y0, .int .i64 y1, .int .i64 y2])).run Try.prog w = .ok (x0 == y0 && (x1 == y1 && (x2 == y2))) w := by
  refine eqA_of Try.underlying84 (by kernel_rfl) ?_
  refine eqf_cons (by rfl) (by go_simp; rfl) (by go_simp; rfl) (by go_simp) ?_
  refine eqf_cons (by rfl) (by go_simp; rfl) (by go_simp; rfl) (by go_simp) ?_
  exact eqf_last (by rfl) (by go_simp; rfl) (by go_simp; rfl) (by go_simp)
theorem key_key : KeyT keyv Try.prog 84 := by
  refine KeyT.of_equal (by rw [Try.underlying84]) ?_ ?_ ?_
  · intro w em x
    kernel_rfl
  · intro w x y
    have h := eq_key3 w 9998 x.f x.g x.h y.f y.g y.h
    have e : decide (x = y) = ((x.f : Int) == y.f && ((x.g : Int) == y.g && ((x.h : Int) == y.h))) := by
      cases x; cases y; simp; rw [Bool.eq_iff_iff]; simp; omega
    rw [e]; exact h
  · intro x
    simp [keyv, Instr.sameBits]
theorem run_done_look (w : World) {db : Nat} {D : List (Key × Nat)} (h : w.heap[db]? = some (mapObj keyv numv D)) (k : Key) :
    (Instr.lookup 76 (.map (some db)) (keyv k) true).run Try.prog w = .ok (.tuple #[numv ((Mq.look k D).getD 0), .bool (Mq.look k D).isSome]) w := by
  have := run_look key_key (e := 3) Try.underlying76 (z := 0) (encv := numv) (fun w => by kernel_rfl) w h k true
  exact this
theorem run_done_store (w : World) {db : Nat} {D : List (Key × Nat)} (h : w.heap[db]? = some (mapObj keyv numv D)) (k : Key) (x : Nat) :
    (Instr.mapUpdate 76 (.map (some db)) (keyv k) (numv x)).run Try.prog w = .ok () (ChangeMaps.setBlock w db (mapObj keyv numv (Mq.put k x D))) :=
  Mq.run_store key_key Try.underlying76 w h k x

/-- The maker in memory: its struct and what it remembers. -/
structure MkBox (w : World) (mb db a err : Nat) (D : List (Key × Nat)) : Prop where
  head : w.heap[mb]? = some (.cells #[.pointer (some ⟨a, 0, none⟩), .map (some db), errv err] 78 (0, 0))
  done : w.heap[db]? = some (mapObj keyv numv D)
theorem MkBox.block {w w' : World} {mb db a err : Nat} {D : List (Key × Nat)} (h : MkBox w mb db a err D) (h1 : w'.heap[mb]? = w.heap[mb]?) (h2 : w'.heap[db]? = w.heap[db]?) : MkBox w' mb db a err D := ⟨h1.trans h.head, h2.trans h.done⟩
theorem MkBox.lt {w : World} {mb db a err : Nat} {D : List (Key × Nat)} (h : MkBox w mb db a err D) : mb < w.heap.size ∧ db < w.heap.size := ⟨(Array.getElem?_eq_some_iff.1 h.head).1, (Array.getElem?_eq_some_iff.1 h.done).1⟩
theorem MkBox.below {w w' : World} {mb db a err : Nat} {D : List (Key × Nat)} (h : MkBox w mb db a err D) (hb : Below w.heap.size w w') : MkBox w' mb db a err D := h.block (hb.block _ h.lt.1) (hb.block _ h.lt.2)
theorem MkBox.keep {w w' : World} {Y : Nat → Prop} {mb db a err : Nat} {D : List (Key × Nat)} (h : MkBox w mb db a err D) (hk : Keep Y w w') (h1 : Y mb) (h2 : Y db) : MkBox w' mb db a err D := h.block (hk.block _ h1 h.lt.1) (hk.block _ h2 h.lt.2)

set_option maxRecDepth 100000 in
theorem half_any {w : World} {X : Nat → Prop} {a : Nat} {ns : List Nd} {most : Nat} {mb db err : Nat} {D : List (Key × Nat)} (h : Ar w X a ns most) (hM : MkBox w mb db a err D) (f v : Nat) (hf : f < ns.length) (b : Bool) :
    Calls Try.prog 61 #[.pointer (some ⟨mb, 0, none⟩), .int .i64 f, .int .i64 v, .bool b] w fun e w' => e = .returned (.int .i64 (half ns f v b : Nat)) ∧ Below w.heap.size w w' := by
  obtain ⟨c0, -, -, -⟩ := cells3 hM.head
  have H := Lib.hid h
  have hgi := Lib.hid (geti_nat ns f)
  have hh : half ns f v b = if var ns f = v then (if b then (nd ns f).hi else (nd ns f).lo) else f := rfl
  unfold var at hh
  have HH := Lib.hid hh
  clear h hM hh
  go_enter Try.func61, Try.ntmps61
  go_wp2_with fail
  refine (get_any H.out f).mono ?_
  rintro e w1 ⟨rfl, hb1⟩
  rw [hgi.out]
  unfold ndv
  have B := Lib.hid hb1
  clear hb1 c0
  by_cases hv : (nd ns f).v = v
  · have hne : (((nd ns f).v : Int) != (v : Int)) = false := by rw [bne_eq_false_iff_eq]; omega
    have HV := Lib.hid hv
    clear hv
    generalize (nd ns f).v = x at *
    generalize (nd ns f).lo = lo at *
    generalize (nd ns f).hi = hi at *
    cases b
    · go_wp2_with fail
      go_ret
      exact ⟨ret_int (by rw [HH.out]; simp [HV.out]), below_alloc B.out _⟩
    · go_wp2_with fail
      go_ret
      exact ⟨ret_int (by rw [HH.out]; simp [HV.out]), below_alloc B.out _⟩
  · have hne : (((nd ns f).v : Int) != (v : Int)) = true := by rw [bne_iff_ne]; omega
    have HV := Lib.hid hv
    clear hv
    generalize (nd ns f).v = x at *
    generalize (nd ns f).lo = lo at *
    generalize (nd ns f).hi = hi at *
    go_wp2_with fail
    go_ret
    exact ⟨ret_int (by rw [HH.out]; simp [HV.out]), below_alloc B.out _⟩
end Go.Proofs.Ytbceacihkdmgkaa
