import Derived.Test.YtimlfmklbfgliaaDoorMkW
set_option linter.unusedVariables false
namespace Go.Proofs.YtimlfmklbfgliaaDoor
open Go.RowKit Mq

set_option maxRecDepth 100000 in
set_option maxHeartbeats 1000000 in
theorem mk_same {w : World} {X : Nat → Prop} {a : Nat} {ns : List Nd} {most : Nat} (h : Ar w X a ns most) (v lo : Nat) (ok : okNd ns ⟨v, lo, lo⟩) :
    Calls Tryd.prog 24 #[.pointer (some ⟨a, 0, none⟩), .int .i64 v, .int .i64 lo, .int .i64 lo] w (MkPost X a most w ns lo 0) := by
  have hlt := h.lt
  have hle := h.len_le
  have hwf := h.wf.two
  have h' := h
  obtain ⟨sb, g, cap, cur, h⟩ := h
  obtain ⟨h0, h1, h2, -⟩ := h.fields
  obtain ⟨o1, o2, o3, o4, o5⟩ := ok
  simp only at o1 o2 o3 o4 o5
  obtain ⟨c0, -, -⟩ := h.node o2
  unfold var at o4 o5
  generalize (nd ns lo).v = x at *
  clear h
  have H := Lib.hid h'; clear h'
  go_enter Tryd.func24, Tryd.ntmps24
  go_wp2
  go_ret2
  exact MkPost.of rfl rfl (H.out.alloc' _) ((Keep.refl _ _).alloc _)

set_option maxRecDepth 100000 in
set_option maxHeartbeats 1000000 in
theorem mk_found {w : World} {X : Nat → Prop} {a : Nat} {ns : List Nd} {most : Nat} (h : Ar w X a ns most) (n : Nd) (ok : okNd ns n) (hne : n.lo ≠ n.hi) (k : Nat) (hp : place ns n = some k) :
    Calls Tryd.prog 24 #[.pointer (some ⟨a, 0, none⟩), .int .i64 n.v, .int .i64 n.lo, .int .i64 n.hi] w (MkPost X a most w ns k 0) := by
  have hlt := h.lt
  have hle := h.len_le
  have hwf := h.wf.two
  have h' := h
  obtain ⟨sb, g, cap, cur, h⟩ := h
  obtain ⟨h0, h1, h2, -⟩ := h.fields
  obtain ⟨o1, o2, o3, o4, o5⟩ := ok
  obtain ⟨c0, -, -⟩ := h.node o2
  obtain ⟨d0, -, -⟩ := h.node o3
  have hseen := fun (o : Obj) (q : Nat) => run_mk_look ((w.alloc o).drewN q) (sb := sb) (ns := ns) (by
    have hs := (Array.getElem?_eq_some_iff.1 h.seen).1
    rw [World.heap_drewN, Below.heap_alloc _ _ _ hs]; exact h.seen) n
  simp only [hp, Option.getD_some, Option.isSome_some] at hseen
  unfold ndv numv at hseen
  unfold var at o4 o5
  have hne1 : ((n.lo : Int) == (n.hi : Int)) = false := by rw [beq_eq_false_iff_ne]; omega
  generalize (nd ns n.lo).v = x at *
  generalize (nd ns n.hi).v = y at *
  clear h
  have H := Lib.hid h'; clear h'
  clear hp
  generalize n.v = nv at *
  generalize n.lo = nl at *
  generalize n.hi = nh at *
  go_enter Tryd.func24, Tryd.ntmps24
  go_wp2
  go_quiet (fail)
  go_wp2
  go_ret2
  exact MkPost.of rfl rfl ((H.out.alloc' _).drewN _) (((Keep.refl _ _).alloc _).drewN _)

set_option maxRecDepth 100000 in
set_option maxHeartbeats 1000000 in
theorem mk_full {w : World} {X : Nat → Prop} {a : Nat} {ns : List Nd} {most : Nat} (h : Ar w X a ns most) (n : Nd) (ok : okNd ns n) (hne : n.lo ≠ n.hi) (hp : place ns n = none) (hm : ns.length = most) :
    Calls Tryd.prog 24 #[.pointer (some ⟨a, 0, none⟩), .int .i64 n.v, .int .i64 n.lo, .int .i64 n.hi] w (MkPost X a most w ns 0 8) := by
  have hlt := h.lt
  have hle := h.len_le
  have hwf := h.wf.two
  have h' := h
  obtain ⟨sb, g, cap, cur, h⟩ := h
  obtain ⟨h0, h1, h2, -⟩ := h.fields
  obtain ⟨o1, o2, o3, o4, o5⟩ := ok
  obtain ⟨c0, -, -⟩ := h.node o2
  obtain ⟨d0, -, -⟩ := h.node o3
  have hseen := fun (o : Obj) (q : Nat) => run_mk_look ((w.alloc o).drewN q) (sb := sb) (ns := ns) (by
    have hs := (Array.getElem?_eq_some_iff.1 h.seen).1
    rw [World.heap_drewN, Below.heap_alloc _ _ _ hs]; exact h.seen) n
  simp only [hp, Option.getD_none, Option.isSome_none] at hseen
  unfold ndv numv at hseen
  unfold var at o4 o5
  have hm1 : ((ns.length : Int) == (most : Int)) = true := by rw [beq_iff_eq]; omega
  clear hm
  have hne1 : ((n.lo : Int) == (n.hi : Int)) = false := by rw [beq_eq_false_iff_ne]; omega
  generalize (nd ns n.lo).v = x at *
  generalize (nd ns n.hi).v = y at *
  clear h
  have H := Lib.hid h'; clear h'
  clear hp
  generalize n.v = nv at *
  generalize n.lo = nl at *
  generalize n.hi = nh at *
  go_enter Tryd.func24, Tryd.ntmps24
  go_wp2
  go_quiet (fail)
  go_wp2
  go_quiet (fail)
  go_wp2
  go_ret2
  exact MkPost.of rfl rfl ((H.out.alloc' _).drewN _) (((Keep.refl _ _).alloc _).drewN _)
end Go.Proofs.YtimlfmklbfgliaaDoor
