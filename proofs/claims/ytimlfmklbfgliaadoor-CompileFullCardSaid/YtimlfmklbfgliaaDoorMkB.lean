import Derived.Test.YtimlfmklbfgliaaDoorMkW
set_option linter.unusedVariables false
namespace Go.Proofs.YtimlfmklbfgliaaDoor
open Go.RowKit Mq

set_option maxRecDepth 100000 in
set_option maxHeartbeats 2000000 in
theorem mk_push {w : World} {X : Nat → Prop} {a : Nat} {ns : List Nd} {most : Nat} (h : Ar w X a ns most) (n : Nd) (ok : okNd ns n) (hne : n.lo ≠ n.hi) (hp : place ns n = none) (hm : ns.length < most) :
    Calls Tryd.prog 24 #[.pointer (some ⟨a, 0, none⟩), .int .i64 n.v, .int .i64 n.lo, .int .i64 n.hi] w (MkPost X a most w (ns ++ [n]) ns.length 0) := by
  have hlt := h.lt
  have hle := h.len_le
  have hwf := h.wf.two
  have hW := Lib.hid (wf_push h.wf ok hne (place_none hp))
  obtain ⟨sb, g, cap, cur, h⟩ := h
  have hml := h.most_le
  obtain ⟨h0, h1, h2, -⟩ := h.fields
  have ok' := Lib.hid ok
  obtain ⟨o1, o2, o3, o4, o5⟩ := ok
  obtain ⟨c0, -, -⟩ := h.node o2
  obtain ⟨d0, -, -⟩ := h.node o3
  have hsl := (Array.getElem?_eq_some_iff.1 h.seen).1
  have hseen := fun (o : Obj) (q : Nat) => run_mk_look ((w.alloc o).drewN q) (sb := sb) (ns := ns) (by
    rw [World.heap_drewN, Below.heap_alloc _ _ _ hsl]; exact h.seen) n
  simp only [hp, Option.getD_none, Option.isSome_none] at hseen
  unfold ndv numv at hseen
  unfold var at o4 o5
  have hne1 : ((n.lo : Int) == (n.hi : Int)) = false := by rw [beq_eq_false_iff_ne]; omega
  have hm1 : ((ns.length : Int) == (most : Int)) = false := by rw [beq_eq_false_iff_ne]; omega
  -- the arena in the worlds ahead of the append; the box of the node is foreign to it
  have HM : Hid (∀ (o o' : Obj) (q : Nat), ArM (((w.alloc o).drewN q).alloc o') (fun k => X k ∨ k = w.heap.size) a sb g cap cur ns (seenL ns) most) := fun o o' q =>
    h.toArM.moved (fun k hk _ => by rw [Below.heap_alloc _ _ _ (by simp; omega), World.heap_drewN, Below.heap_alloc _ _ _ hk])
      (fun k hk => by rcases hk with hk | rfl <;> simp <;> first | omega | (have := h.low k hk; omega)) (fun k hk he hY => by rcases hY with hY | rfl; exact h.not_x he hY; omega)
  have hsb := Lib.hid h.toArM
  generalize hx : (nd ns n.lo).v = x at *
  generalize hy : (nd ns n.hi).v = y at *
  clear hx hy
  have H := Lib.hid h; clear h
  have hp' := Lib.hid hp; clear hp
  obtain ⟨nv, nl, nh⟩ := n
  simp only at *
  go_enter Tryd.func24, Tryd.ntmps24
  go_wp2
  go_quiet (fail)
  go_wp2
  go_quiet (fail)
  go_wp2
  go_cut [] from 13 to 126 (fun w2 => AfterPush w X a sb most ns ⟨nv, nl, nh⟩ (seenL ns) w2)
  case first =>
    go_region_law (refine step_push (HM.out _ _ _) hle rfl (.tmp 104) (.tmp 106) rfl ⟨nv, nl, nh⟩ (w.heap.size + 1) 1 (by simp [Act.eval]) (by simp [Act.eval]) (heap_new2 _ _ _ _) ?_; intro g' cap' w' hpu; have k0 := hpu.cell; have e0 := hpu.free)
    all_goals go_wp2_with fail
    all_goals go_meet
    all_goals exact AfterPush.of H.out.low H.out.xa hlt hpu
  case rest =>
    clear c0 d0 h0 h1 h2 hseen hsb HM
    obtain ⟨g', cap', cur', hM, hbox, hk⟩ := hcut
    have hst := fun q => run_mk_store (wc.drewN q) (sb := sb) hM.seen ⟨nv, nl, nh⟩ ns.length
    unfold ndv numv at hst
    obtain ⟨h0, h1, h2, -⟩ := hM.fields
    have b0 : wc.cell? ⟨w.heap.size, 0, none⟩ = some (.int .i64 nv) := by rw [cell_of_row _ _ 0 _ _ _ hbox]; rfl
    have b1 : wc.cell? ⟨w.heap.size, 1, none⟩ = some (.int .i64 nl) := by rw [cell_of_row _ _ 1 _ _ _ hbox]; rfl
    have b2 : wc.cell? ⟨w.heap.size, 2, none⟩ = some (.int .i64 nh) := by rw [cell_of_row _ _ 2 _ _ _ hbox]; rfl
    have HM := Lib.hid hM; clear hM
    clear hbox
    rw [List.length_append, List.length_singleton] at h0
    go_wp2_with fail
    go_still_tail 11, (by kernel_rfl)
    have hst1 := hst 1
    change wpList _ _ _ _ _ (wc.drewN 1)
    go_wp2
    rw [hst 1]
    have hMd := ArM.drewN HM.out 1
    obtain ⟨hM3, hk3⟩ := hMd.stored (L' := put ⟨nv, nl, nh⟩ ns.length (seenL ns))
    rw [put_new hp'.out, ← seenL_push hwf] at hM3
    rw [put_new hp'.out, ← seenL_push hwf] at hk3 ⊢
    unfold ndv numv at hM3 hk3
    generalize ChangeMaps.setBlock (wc.drewN 1) sb _ = w3 at hM3 hk3 ⊢
    obtain ⟨h0, h1, h2, -⟩ := hM3.fields
    rw [List.length_append, List.length_singleton] at h0
    have HM3 := Lib.hid hM3; clear hM3
    clear b0 b1 b2
    go_wp2
    go_ret2
    have hwr : wrap64 ((ns.length : Int) + 1 - 1) = ns.length := by unfold wrap64; omega
    refine MkPost.of (by simp) rfl ⟨sb, g', cap', cur', { toArM := ArM.mono' HM3.out fun _ hk => .inl hk, wf := hW.out, room := by simp; omega, most_le := hml }⟩ ?_
    exact (hk.drewN 1).trans (hk3.mono fun _ hk => .inl hk)
end Go.Proofs.YtimlfmklbfgliaaDoor
