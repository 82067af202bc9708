import Derived.Test.YtbceacihkdmgkaaAlg
import Derived.Deep.AppendLies
import Derived.Deep.RegionHeld3
import Derived.Deep.LoopGhost
import Derived.Laws.OwnMore
set_option linter.unusedVariables false
namespace Go.Proofs.Ytbceacihkdmgkaa
open Go.RowKit Mq

theorem owns_move {w w' : World} {b : Nat} {e : TypeId} {s : Nat} {v : Value} {n : Nat} {xs : List Value} (h : w.ownsRow b e s v n xs) (hb : ∀ k, k < w.heap.size → b ≤ k → w'.heap[k]? = w.heap[k]?) : w'.ownsRow b e s v n xs := by
  obtain ⟨h1, h2⟩ := h
  refine ⟨h1, ?_⟩
  rcases h2 with h2 | ⟨g, cap, cur, h2, h3, h4, h5⟩
  · exact .inl h2
  · exact .inr ⟨g, cap, cur, h2, h3, (hb g (Array.getElem?_eq_some_iff.1 h4).1 h3).trans h4, h5⟩
theorem owns_below {w w' : World} {b : Nat} {e : TypeId} {s : Nat} {v : Value} {n : Nat} {xs : List Value} (h : w.ownsRow b e s v n xs) (hb : Below w.heap.size w w') : w'.ownsRow b e s v n xs := owns_move h fun k hk _ => hb.block k hk
theorem owns_alloc {w : World} {b : Nat} {e : TypeId} {s : Nat} {v : Value} {n : Nat} {xs : List Value} (h : w.ownsRow b e s v n xs) (o : Obj) : (w.alloc o).ownsRow b e s v n xs := owns_below h (below_alloc (Below.refl _ _) _)
theorem owns_keep {w w' : World} {X : Nat → Prop} {b : Nat} {e : TypeId} {s : Nat} {v : Value} {n : Nat} {xs : List Value} (h : w.ownsRow b e s v n xs) (hk : Keep X w w') (hx : ∀ k, k < w.heap.size → b ≤ k → X k) : w'.ownsRow b e s v n xs :=
  owns_move h fun k h1 h2 => hk.block k (hx k h1 h2) h1
theorem below_grown {B : Nat} {w w6 w7 : World} {e : TypeId} {s : Nat} {v : Value} {n : Nat} {xs : List Value} (hb : Below B w w6) {w0 : World} (hg : w6.grownBy w7 v.ownBlock) (ho : w0.ownsRow B e s v n xs) (hB : B ≤ w6.heap.size := by omega) : Below B w w7 := by
  refine ⟨hg.os.trans hb.os, hg.tape.trans hb.tape, hg.output.trans hb.output, Nat.le_trans hb.size hg.size, fun k hk => (hg.block k (by omega) ?_).trans (hb.block k hk)⟩
  rcases ho.2 with ⟨rfl, -⟩ | ⟨g, cap, cur, rfl, h3, -⟩
  · simp [Value.ownBlock]
  · simp [Value.ownBlock]; omega
theorem cellsOf_take {ns : List Nd} {i : Nat} (h : i < ns.length) : cellsOf (ns.take (i + 1)) = cellsOf (ns.take i) ++ ndc (nd ns i) := by
  rw [List.take_add_one, List.getElem?_eq_getElem h]
  simp only [Option.toList_some]
  rw [cellsOf_push]
  simp [nd, h]
theorem below_drew {B : Nat} {w w' : World} (h : Below B w w') : Below B w w'.drew := ⟨h.os, h.tape, h.output, h.size, h.block⟩
def KeepRel (w4 : World) (ns : List Nd) (v k : Value) (wr : World) : Prop :=
  ∃ i : Nat, k = .int .i64 i ∧ i ≤ ns.length ∧ Below w4.heap.size w4 wr ∧ wr.ownsRow w4.heap.size 33 3 v i (cellsOf (ns.take i))

attribute [local go_sem high] eq_ints3
set_option maxRecDepth 100000 in
set_option maxHeartbeats 2000000 in
theorem walk_IteKeeps (x y : Nat) (hx : x < 65536) (hy : y < 65536) (w : World) :
    Calls Try.prog 7 #[.int .u16 x, .int .u16 y] w fun e w' => e = .returned (.bool true) ∧ Below w.heap.size w w' := by
  have he : Hid (errv 0 = .nilIface) := by show _ = _; rfl
  go_enter Try.func7, Try.ntmps7
  go_wp2_with fail
  refine (awake2 w).mono ?_
  rintro e w1 ⟨rfl, hb⟩
  have B1 := Lib.hid hb; clear hb
  go_wp2_with fail
  refine (of_any w1 200 200 (by decide)).mono ?_
  rintro e w2 ⟨a, rfl, hA, hk, hle⟩
  have A2 := Lib.hid hA; have K2 := Lib.hid hk; clear hA hk
  go_wp2_with fail
  refine (build_any A2.out x hx (by simp)).mono ?_
  rintro e w3 ⟨ns1, f, rfl, hb1, hA, hk⟩
  have A3 := Lib.hid hA; have D1 := Lib.hid hb1; have K3 := Lib.hid (K2.out.trans hk); clear hA hk hb1
  go_wp2_with fail
  have f1 := Lib.hid D1.out.few
  refine (build_any A3.out y hy (by have := f1.out; simp at this; omega)).mono ?_
  rintro e w4 ⟨ns2, g, rfl, hb2, hA, hk⟩
  have A4 := Lib.hid hA; have D2 := Lib.hid hb2; have K4 := Lib.hid (K3.out.trans hk); clear hA hk hb2
  have f2 := Lib.hid D2.out.few
  have T1 := Lib.hid (Tab.ext (Tab.of_built hx D1.out) D1.out.wf D2.out.ext)
  have T2 := Lib.hid (Tab.of_built hy D2.out)
  go_wp2_with fail
  refine (len_any A4.out).mono ?_
  rintro e w5 ⟨rfl, rfl⟩
  go_wp2_with fail
  have hle := A4.out.len_le
  go_loopw [9, 10] (fun v k wr => KeepRel w4 ns2 v k wr) (fun _ k _ => ns2.length - (intOf k).toNat)
  case atStart => exact ⟨0, rfl, Nat.zero_le _, Below.refl _ _, ⟨rfl, .inl ⟨rfl, rfl⟩⟩⟩
  case round =>
    obtain ⟨i, rfl, hi, hb, hown⟩ := hrel
    have B := Lib.hid hb; have O := Lib.hid hown; clear hb hown
    by_cases hlt : i < ns2.length
    · obtain ⟨i0, hi0, hz0, hz1, hz2⟩ := info_parts node_info
      go_wp2_with (first | (go_at_call 26; refine (get_any (A4.out.below B.out) i).mono ?_; rintro e w6 ⟨rfl, hb6⟩; rw [geti_nat]; unfold ndv; have O6 := Lib.hid (owns_below O.out hb6); have B6 := Lib.hid (below_trans B.out hb6); clear hb6; have hsz := B6.out.size) | (at_builtin; go_loud (refine wpList_append_lies _ rfl _ _ _ rfl w4.heap.size 33 i0 _ 3 24 Try.underlying47 hi0 hz0 hz1 hz2 rfl (by omega) _ i (cellsOf (ns2.take i)) rfl (owns_alloc O6.out _) ⟨w6.heap.size, 0, none⟩ 1 1 (ndc (nd ns2 i)) rfl rfl (World.news_of_block (cs := (ndc (nd ns2 i)).toArray) (heap_alloc_new w6 _)) (by intro u hu; simp [ndc] at hu; rcases hu with rfl | rfl | rfl <;> rfl) (by omega) (by unfold maxLen; omega) (by omega) (by simp; omega) _ rfl ?_); intro g cap w7 hown7 hgrow hat hlt7))
      go_roundw
      case rel =>
        refine ⟨i + 1, by go_num, by omega, ?_, ?_⟩
        · exact below_grown (below_alloc B6.out _) hgrow O6.out (by simp; omega)
        · rw [cellsOf_take hlt]; exact hown7
      case measure => simp [intOf] <;> omega
    · have hi' : i = ns2.length := by omega
      subst hi'
      rw [List.take_length] at O
      go_wp2_with fail
      have A5 := Lib.hid (A4.out.below_more B.out)
      have hfx := T1.out
      refine (xor_any A5.out f g T1.out.lt T2.out.lt T1.out.dep T2.out.dep).mono ?_
      rintro e w7 ⟨ns5, kxor, err, rfl, hA, hk, hX, hc⟩
      rcases hc with ⟨rfl, hfew, hl, hv⟩ | ⟨rfl, -, hf⟩
      rotate_left
      · have := f1.out; have := f2.out; simp at *; omega
      have A7 := Lib.hid hA; have KL := Lib.hid ((K4.out.trans (Keep.below B.out)).trans (hk.mono fun k hk => .inl hk)); have X7 := Lib.hid hX
      have O7 := Lib.hid (owns_keep O.out hk (fun k hk1 hk2 => .inr ⟨hk2, hk1⟩))
      have hX7 := hX.length
      clear hA hk hX hfew hl hv hfx
      rw [he.out]
      go_wp2_with fail
      have h2 := A4.out.wf.two
      obtain ⟨gb, cap, rfl, -, hgl⟩ := O7.out.form (by omega)
      have N7 := Lib.hid (And.intro hX7 hgl)
      go_loopw [13] (fun k wr => ∃ j : Nat, k = .int .i64 j ∧ j ≤ ns2.length ∧ Below w7.heap.size w7 wr) (fun k _ => ns2.length - (intOf k).toNat)
      case atStart => exact ⟨0, rfl, Nat.zero_le _, Below.refl _ _⟩
      case round =>
        obtain ⟨j, rfl, hj, hb⟩ := hrel
        have B := Lib.hid hb; clear hb
        by_cases hjl : j < ns2.length
        · have hS : ∀ w', Below w7.heap.size w7 w' → w'.cell? ⟨gb, j * 3, none⟩ = some (.int .i64 (nd ns2 j).v) ∧ w'.cell? ⟨gb, j * 3 + 1, none⟩ = some (.int .i64 (nd ns2 j).lo) ∧ w'.cell? ⟨gb, j * 3 + 2, none⟩ = some (.int .i64 (nd ns2 j).hi) := fun w' hb => by
            have c : ∀ t, t < 3 → w'.cell? ⟨gb, j * 3 + t, none⟩ = (ndc (nd ns2 j))[t]? := fun t ht => by
              rw [hb.cell (p := ⟨gb, j * 3 + t, none⟩) hgl, O7.out.cellAt _ (by omega), cellsOf_at ns2 j t hjl ht]
            exact ⟨c 0 (by omega), c 1 (by omega), c 2 (by omega)⟩
          have HS := Lib.hid hS; clear hS
          have hgi : geti ns5 (j : Int) = nd ns2 j := by rw [geti_nat]; exact X7.out.nd hjl
          have HG := Lib.hid hgi; clear hgi
          go_upto_region 15 with fail
          have j0 : (0 : Int) ≤ (j : Int) := by omega
          have j1 : (j : Int) < (ns2.length : Int) := by omega
          go_region_held3 (fun w' => w'.cell? ⟨gb, j * 3, none⟩ = some (.int .i64 (nd ns2 j).v) ∧ w'.cell? ⟨gb, j * 3 + 1, none⟩ = some (.int .i64 (nd ns2 j).lo) ∧ w'.cell? ⟨gb, j * 3 + 2, none⟩ = some (.int .i64 (nd ns2 j).hi))
            (first | exact HS.out _ (below_drew B.out) | exact HS.out _ B8.out | go_keep)
            (first | (go_at_call 26; refine (get_any (A7.out.below (below_drew B.out)) _).mono ?_; rintro e w8 ⟨rfl, hb8⟩; rw [HG.out]; unfold ndv; have B8 := Lib.hid (below_trans (below_drew B.out) hb8); clear hb8))
          go_wp2_with fail
          go_roundw
          case rel => exact ⟨j + 1, by go_num, by omega, B8.out⟩
          case measure => simp [intOf] <;> omega
        · have hjj : j = ns2.length := by omega
          subst hjj
          go_wp2_with fail
          refine (len_any (A7.out.below B.out)).mono ?_
          rintro e w9 ⟨rfl, rfl⟩
          have hX8 : ns2.length ≤ ns5.length := N7.out.1
          go_wp2_with fail
          go_ret
          refine ⟨ret_bool (by simp), below_trans B1.out (below_of_keep (KL.out.trans (Keep.below B.out)))⟩
end Go.Proofs.Ytbceacihkdmgkaa
