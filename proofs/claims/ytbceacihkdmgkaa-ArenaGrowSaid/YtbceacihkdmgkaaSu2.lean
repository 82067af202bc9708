import Derived.Test.YtbceacihkdmgkaaSu
import Derived.Test.YtbceacihkdmgkaaAp
set_option linter.unusedVariables false
namespace Mq
def supL (U : List Nat) (i : Nat) : List Nat := (List.range i).filter fun x => decide (x ∈ U)
theorem supL_yes {U : List Nat} {i : Nat} (h : i ∈ U) : supL U (i + 1) = supL U i ++ [i] := by simp [supL, List.range_succ, h]
theorem supL_no {U : List Nat} {i : Nat} (h : i ∉ U) : supL U (i + 1) = supL U i := by simp [supL, List.range_succ, h]
theorem supL_le (U : List Nat) (i : Nat) : (supL U i).length ≤ i := by unfold supL; have := List.length_filter_le (fun x => decide (x ∈ U)) (List.range i); simpa using this
end Mq
namespace Go.Proofs.Ytbceacihkdmgkaa
open Go.RowKit Mq

theorem int_info : (Try.prog.info? 3).map (fun i => (i.zero, i.size, i.bytes)) = some (some (.int .i64 0), 1, 8) := by kernel_rfl
/-- Whole numbers in a row of the call's own. -/
def OwnsInts (w : World) (base : Nat) (v : Value) (L : List Nat) : Prop := w.ownsRow base 3 1 v L.length (L.map numv)
theorem OwnsInts.form {w : World} {base : Nat} {v : Value} {L : List Nat} (h : OwnsInts w base v L) : ∃ A c, v = .slice A L.length c := by
  rcases h.2 with ⟨rfl, hn⟩ | ⟨g, cap, cur, rfl, -⟩
  · exact ⟨none, 0, by rw [hn]⟩
  · exact ⟨_, _, rfl⟩
theorem ownInts_base {w : World} {b b' : Nat} {v : Value} {L : List Nat} (h : OwnsInts w b v L) (hb : b' ≤ b) : OwnsInts w b' v L := by
  obtain ⟨h1, h2⟩ := h
  refine ⟨h1, ?_⟩
  rcases h2 with h2 | ⟨g, cap, cur, h2, h3, h4⟩
  · exact .inl h2
  · exact .inr ⟨g, cap, cur, h2, by omega, h4⟩
/-- Its elements. -/
theorem ints_flat (L : List Nat) : L.map numv = L.flatMap (fun x => [numv x]) := by induction L with
  | nil => rfl
  | cons a l ih => simp [ih]
theorem OwnsInts.at_ {w : World} {base : Nat} {A : Option Addr} {n c : Nat} {L : List Nat} (h : OwnsInts w base (.slice A n c) L) : Sli (fun x : Nat => [numv x]) 1 w w.heap.size A L := by
  obtain ⟨A', c', e⟩ := h.form
  injection e with e1 e2 e3
  subst e2
  unfold OwnsInts at h
  rw [ints_flat] at h
  exact Sli.of_own (fun a => rfl) (by omega) h
theorem heap6 (w : World) (o1 o2 o3 o4 o5 o6 : Obj) :
    (((((((w.alloc o1).alloc o2).alloc o3).alloc o4).alloc o5).alloc o6).heap[w.heap.size]? = some o1 ∧ ((((((w.alloc o1).alloc o2).alloc o3).alloc o4).alloc o5).alloc o6).heap[w.heap.size + 1]? = some o2 ∧
    ((((((w.alloc o1).alloc o2).alloc o3).alloc o4).alloc o5).alloc o6).heap[w.heap.size + 1 + 1]? = some o3 ∧ ((((((w.alloc o1).alloc o2).alloc o3).alloc o4).alloc o5).alloc o6).heap[w.heap.size + 1 + 1 + 1]? = some o4 ∧
    ((((((w.alloc o1).alloc o2).alloc o3).alloc o4).alloc o5).alloc o6).heap[w.heap.size + 1 + 1 + 1 + 1]? = some o5 ∧ ((((((w.alloc o1).alloc o2).alloc o3).alloc o4).alloc o5).alloc o6).heap[w.heap.size + 1 + 1 + 1 + 1 + 1]? = some o6 ∧
    ((((((w.alloc o1).alloc o2).alloc o3).alloc o4).alloc o5).alloc o6).heap.size = w.heap.size + 6) ∧ Below w.heap.size w ((((((w.alloc o1).alloc o2).alloc o3).alloc o4).alloc o5).alloc o6) := by
  obtain ⟨e1, e2, e3, e4, e5⟩ := heap4 w o1 o2 o3 o4
  have hb := below_alloc (below_alloc (below_alloc (below_alloc (below_alloc (below_alloc (Below.refl w.heap.size w) o1) o2) o3) o4) o5) o6
  generalize (((w.alloc o1).alloc o2).alloc o3).alloc o4 = w4 at *
  have g5 := gb_new w4 o5
  have s5 : (w4.alloc o5).heap.size = w.heap.size + 5 := by simp [e5]
  have g6 := gb_new (w4.alloc o5) o6
  rw [e5] at g5
  rw [s5] at g6
  exact ⟨⟨gb_old _ _ (gb_old _ _ e1), gb_old _ _ (gb_old _ _ e2), gb_old _ _ (gb_old _ _ e3), gb_old _ _ (gb_old _ _ e4), gb_old _ _ g5, g6, by simp [e5]⟩, hb⟩
def SupPost (w : World) (L : List Nat) (e : Ending) (w' : World) : Prop := ∃ A c, e = .returned (.slice A L.length c) ∧ OwnsInts w' w.heap.size (.slice A L.length c) L ∧ Below w.heap.size w w'
structure SupRel (U : List Nat) (W wr : World) (v : Value) (i : Nat) : Prop where
  below : Below W.heap.size W wr
  owns : OwnsInts wr W.heap.size v (supL U i)
set_option maxRecDepth 100000 in
set_option maxHeartbeats 2000000 in
theorem support_any {w : World} {X : Nat → Prop} {a : Nat} {ns : List Nd} {most : Nat} (h : Ar w X a ns most) (f : Nat) (hf : f < ns.length) :
    Calls Try.prog 45 #[.pointer (some ⟨a, 0, none⟩), .int .i64 f] w (SupPost w (supL (visitU ns f [] []).2 1024)) := by
  have hmm := @run_makeMap Try.prog
  have H := Lib.hid h
  clear h
  obtain ⟨U, hU⟩ : ∃ U, U = (visitU ns f [] []).2 := ⟨_, rfl⟩
  have HU := Lib.hid hU
  rw [← hU]
  clear hU
  go_enter Try.func45, Try.ntmps45
  go_wp2_with fail
  obtain ⟨⟨e1, e2, e3, e4, e5, e6, e7⟩, hB⟩ := heap6 w (.cells #[.pointer (some ⟨a, 0, none⟩)] 24) (.map #[] 0) (.map #[] 0) (.cells #[.map (some (w.heap.size + 1))] 80) (.cells #[.map (some (w.heap.size + 1 + 1))] 80) (.cells #[.func (.func 60) #[] #[.pointer (some ⟨w.heap.size, 0, none⟩), .pointer (some ⟨w.heap.size + 1 + 1 + 1, 0, none⟩), .pointer (some ⟨w.heap.size + 1 + 1 + 1 + 1, 0, none⟩), .pointer (some ⟨w.heap.size + 1 + 1 + 1 + 1 + 1, 0, none⟩)]] 81)
  have hA := H.out.below_more hB
  generalize ((((((w.alloc (.cells #[.pointer (some ⟨a, 0, none⟩)] 24)).alloc (.map #[] 0)).alloc (.map #[] 0)).alloc (.cells #[.map (some (w.heap.size + 1))] 80)).alloc (.cells #[.map (some (w.heap.size + 1 + 1))] 80)).alloc (.cells #[.func (.func 60) #[] #[.pointer (some ⟨w.heap.size, 0, none⟩), .pointer (some ⟨w.heap.size + 1 + 1 + 1, 0, none⟩), .pointer (some ⟨w.heap.size + 1 + 1 + 1 + 1, 0, none⟩), .pointer (some ⟨w.heap.size + 1 + 1 + 1 + 1 + 1, 0, none⟩)]] 81)) = W at *
  have BX : SuBox W a w.heap.size (w.heap.size + 1 + 1 + 1) (w.heap.size + 1 + 1 + 1 + 1) (w.heap.size + 1 + 1 + 1 + 1 + 1) (w.heap.size + 1) (w.heap.size + 1 + 1) [] [] := by
    exact ⟨e1, e4, e5, e6, e2, e3, ⟨by omega, by omega⟩, ⟨by omega, by omega⟩, ⟨by omega, by omega⟩, ⟨by omega, by omega⟩, by omega⟩
  have hx : (X (w.heap.size + 1) ∨ w.heap.size ≤ w.heap.size + 1 ∧ w.heap.size + 1 < W.heap.size) ∧ (X (w.heap.size + 1 + 1) ∨ w.heap.size ≤ w.heap.size + 1 + 1 ∧ w.heap.size + 1 + 1 < W.heap.size) := ⟨.inr ⟨by omega, by omega⟩, .inr ⟨by omega, by omega⟩⟩
  refine (su_all (X := fun k => X k ∨ w.heap.size ≤ k ∧ k < W.heap.size) hx H.out.wf f hf W [] [] hA BX).mono ?_
  rintro e w1 ⟨rfl, hk, hb⟩
  rw [← HU.out] at hb
  have P : Hid (Below w.heap.size w w1) := Lib.hid ⟨hk.os.trans hB.os, hk.tape.trans hB.tape, hk.output.trans hB.output, Nat.le_trans hB.size hk.size, fun k hk1 => (hk.block k ⟨by omega, by omega⟩ (Nat.lt_of_lt_of_le hk1 hB.size)).trans (hB.block k (by omega))⟩
  have HB := Lib.hid hb
  clear hB hk hb hA BX hx e1 e2 e3 e4 e5 e6 e7 hmm
  have l4 := (Array.getElem?_eq_some_iff.1 HB.out.hv).1
  have ln := (Array.getElem?_eq_some_iff.1 HB.out.hn).1
  have sw := P.out.size
  go_wp2_with fail
  go_loopw [16, 8] (fun j v wr => ∃ i : Nat, j = .int .i64 i ∧ i ≤ 1024 ∧ SupRel U w1 wr v i) (fun j _ _ => 1024 - (intOf j).toNat)
  case atStart => exact ⟨0, rfl, by omega, Below.refl _ _, rfl, .inl ⟨rfl, rfl⟩⟩
  case round =>
    obtain ⟨i, rfl, hi, hrel⟩ := hrel
    obtain ⟨Av, cv, rfl⟩ := hrel.owns.form
    have R := Lib.hid hrel
    clear hrel
    by_cases hlt : i < 1024
    · have HB2 := Lib.hid (HB.out.below (R.out.below))
      have d0 := (cells1 HB2.out.hv).1
      have hlk := run_seen_look wr HB2.out.hn i
      unfold numv at hlk
      by_cases hin : i ∈ U
      · rw [show decide (i ∈ U) = true by simp [hin]] at hlk
        have HS := Lib.hid (supL_yes hin)
        have hle := supL_le U i
        clear hin
        obtain ⟨i0, hi0, hz0, hz1, hz2⟩ := info_parts int_info
        have sR := R.out.below.size
        go_upto_region 10 with fail
        clear hlk d0
        go_upto_region 11 with (at_builtin; refine wpList_append_lies _ rfl _ _ _ rfl w1.heap.size 3 i0 _ 1 8 Try.underlying36 hi0 hz0 hz1 hz2 rfl (by omega) _ (supL U i).length ((supL U i).map numv) rfl (ow_alloc R.out.owns _) ⟨wr.heap.size, 0, none⟩ 1 1 [.int .i64 i] rfl rfl (World.news_of_block (cs := #[.int .i64 i]) (heap_alloc_new wr _)) (by intro u hu; simp at hu; subst hu; rfl) (by omega) (by unfold maxLen; omega) (by omega) (by simp; omega) _ rfl ?_; intro g cap' w7 hown7 hgrow hat hlt7)
        have B7 := Lib.hid (ow_grown (gb_alloc R.out.below _) hgrow R.out.owns (by simp; omega))
        have O7 : Hid (OwnsInts w7 w1.heap.size (.slice (some ⟨g, 0, none⟩) ((supL U i).length + 1) cap') (supL U i ++ [i])) := Lib.hid (by have := hown7; unfold OwnsInts; rw [List.length_append, List.map_append, List.length_singleton]; simpa [numv] using this)
        clear hgrow hat hown7 hi0 hz0 hz1 hz2
        go_wp2_with fail
        go_roundw
        case rel => exact ⟨i + 1, by go_num, by omega, B7.out, by rw [HS.out]; exact O7.out⟩
        case measure => simp [intOf] <;> omega
      · rw [show decide (i ∈ U) = false by simp [hin]] at hlk
        have HS := Lib.hid (supL_no hin)
        clear hin
        go_wp2_with fail
        go_roundw
        case rel => exact ⟨i + 1, by go_num, by omega, R.out.below, by rw [HS.out]; exact R.out.owns⟩
        case measure => simp [intOf] <;> omega
    · have hi' : i = 1024 := by omega
      subst hi'
      go_wp2_with fail
      go_ret
      exact ⟨Av, cv, rfl, ownInts_base R.out.owns sw, gb_trans P.out R.out.below⟩
end Go.Proofs.Ytbceacihkdmgkaa
