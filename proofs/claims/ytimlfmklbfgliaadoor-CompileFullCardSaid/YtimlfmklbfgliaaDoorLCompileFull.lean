import Derived.Test.YtimlfmklbfgliaaDoorEi
import Derived.Test.YtimlfmklbfgliaaDoorNum
set_option linter.unusedVariables false
namespace Go.Proofs.YtimlfmklbfgliaaDoor
open Go.RowKit Mq

theorem Ar.keepWide {w w' : World} {X Y X' : Nat → Prop} {a : Nat} {ns : List Nd} {most : Nat} (h : Ar w X a ns most) (hk : Keep Y w w') (hy : ∀ q, ¬ X q → q < w.heap.size → Y q ∧ ¬ X' q) (hl : ∀ q, X' q → q < w'.heap.size) : Ar w' X' a ns most := by
  obtain ⟨sb, g, cap, cur, h⟩ := h
  exact ⟨sb, g, cap, cur, h.moved (fun k hk1 hk2 => hk.block k (hy k (h.not_x hk2) hk1).1 hk1) hl (fun k hk1 hk2 => (hy k (h.not_x hk2) hk1).2)⟩
theorem edT_congr2 {e f : EdV} (h1 : e.cost = f.cost) (h2 : e.ex.l = f.ex.l) (h3 : e.im.l = f.im.l) : edT e = edT f := by
  funext k t; unfold edT edRow edTake; rw [h1, h2, h3]
theorem wpList_load_rowG {P : Program} {ops : Array Oper} {rest : List Oper} {o : Oper} {a : Act} {w : World} {Q : Exit → Act → World → Prop} (hw : Region.wanted o (yielded ops a.tmps) = true) (ty : TypeId) (x : Operand) (ho : o.op = .load ty x)
    (g : Nat) (hx : a.eval x = .pointer (some ⟨g, 0, none⟩)) (t : TypeId) (cs : Array Value) (fr : Nat × Nat) (d : TypeDesc) (hg : w.heap[g]? = some (.cells cs t fr))
    (hu : P.underlying ty = some d) (hd : (match d with | .struct _ | .array _ _ => true | _ => false) = true) (hi : (P.info? ty).map (·.size) = some cs.size)
    (h : wpList P ops Q rest (a.put o.dst (.agg cs)) w) : wpList P ops Q (o :: rest) a w :=
  BigFrame.wpList_want hw fun _ hK => wp_load_row ty x ho g hx t cs fr d hg hu hd hi (hK _ _ h)
theorem outC_zero : outC [] = outC (List.replicate 24 0) := by kernel_rfl
theorem outC_lit : outC (List.replicate 24 0) = #[.int .i64 0, .int .i64 0, .int .i64 0, .int .i64 0, .int .i64 0, .int .i64 0, .int .i64 0, .int .i64 0, .int .i64 0, .int .i64 0, .int .i64 0, .int .i64 0, .int .i64 0, .int .i64 0, .int .i64 0, .int .i64 0, .int .i64 0, .int .i64 0, .int .i64 0, .int .i64 0, .int .i64 0, .int .i64 0, .int .i64 0, .int .i64 0] := by kernel_rfl
set_option maxRecDepth 100000 in
theorem eq_zero (w : World) (d : Nat) : (Op.equalIn (d + 2) 29 (.agg (outC [])) (.agg #[.int .i64 0, .int .i64 0, .int .i64 0, .int .i64 0, .int .i64 0, .int .i64 0, .int .i64 0, .int .i64 0, .int .i64 0, .int .i64 0, .int .i64 0, .int .i64 0, .int .i64 0, .int .i64 0, .int .i64 0, .int .i64 0, .int .i64 0, .int .i64 0, .int .i64 0, .int .i64 0, .int .i64 0, .int .i64 0, .int .i64 0, .int .i64 0])).run Tryd.prog w = .ok true w := by
  rw [outC_zero, ← outC_lit, eq_policy w d _ _ (by simp) (by simp)]; simp
attribute [local go_sem high] max2_ii min2_ii
set_option maxRecDepth 100000 in
set_option maxHeartbeats 4000000 in
theorem walk_CompileFull (v : WiV) (mst : Nat) (w : World) (hv : WiOk w v) (hmst : mst < 256) (hg : ErrG w) :
    Calls Tryd.prog 3 #[.agg (wic v).toArray, .int .u8 mst] w fun e w' => e = .returned (.bool true) ∧ Below w.heap.size w w' := by
  have G := Lib.hid hg; clear hg
  have V := Lib.hid hv
  clear hv
  unfold wic slv
  obtain ⟨m, hm⟩ : ∃ m, m = mst % 40 := ⟨_, rfl⟩
  have hrem : Int.tmod (mst : Int) 40 = (m : Int) := by rw [Int.tmod_eq_emod_of_nonneg (by omega)]; omega
  have hwm : IntKind.i64.wrap (m : Int) = (m : Int) := by rw [IntKind.wrap_i64]; omega
  have M40 : m < 40 := by omega
  obtain ⟨M, hM⟩ : ∃ M : Nat, (M : Int) = max 2 (min (m : Int) 131072) := ⟨(max 2 (min (m : Int) 131072)).toNat, by omega⟩
  have HM : Hid (M = max 2 m) := Lib.hid (by omega)
  have HM2 := Lib.hid hM
  clear hM hm
  go_enter Tryd.func3, Tryd.ntmps3
  go_wp2_with fail
  have b1 := gb_new w (.cells #[.int .u8 v.from_, .int .u8 v.cost, .slice v.ex.A v.ex.l.length v.ex.cap, .slice v.im.A v.im.l.length v.im.cap] 24)
  have hB := gb_alloc (Below.refl w.heap.size w) (.cells #[.int .u8 v.from_, .int .u8 v.cost, .slice v.ex.A v.ex.l.length v.ex.cap, .slice v.im.A v.im.l.length v.im.cap] 24)
  generalize w.alloc (.cells #[.int .u8 v.from_, .int .u8 v.cost, .slice v.ex.A v.ex.l.length v.ex.cap, .slice v.im.A v.im.l.length v.im.cap] 24) = W0 at *
  refine (awake14 W0).mono ?_
  rintro en w0 ⟨rfl, hb⟩
  have C1 := Lib.hid (gb_blk hb b1 (gb_lt b1))
  have B0 := Lib.hid (gb_trans hB hb)
  clear b1 hB hb
  go_wp2_with fail
  refine (of_any w0 4096 4096 (by decide)).mono ?_
  rintro en w1 ⟨a, rfl, hA, hk, hle⟩
  have A1 := Lib.hid hA; have K1 := Lib.hid hk; clear hA hk hle
  go_wp2_with fail
  refine (of_any w1 m M HM2.out).mono ?_
  rintro en w2 ⟨b, rfl, hA, hk, hle⟩
  have Bb2 := Lib.hid hA; have B12 := Lib.hid (below_of_keep hk); clear hA hk hle
  have A2 := Lib.hid (A1.out.below_more B12.out)
  have K2 : Hid (Keep (fun q => q < w0.heap.size) w0 w2) := Lib.hid (K1.out.trans (Keep.below B12.out))
  have z1 := K1.out.size
  have z2 := B12.out.size
  have C2 := Lib.hid ((K2.out.block _ (gb_lt C1.out) (gb_lt C1.out)).trans C1.out)
  have X1 : Hid (w.heap.size < w0.heap.size) := Lib.hid (gb_lt C1.out)
  obtain ⟨p0, p1, p2, p3⟩ := gb_cells4 C2.out
  have Z1 := Lib.hid z1; have Z2 := Lib.hid z2
  clear z1 z2 C1 K1 A1
  go_wp2_with fail
  refine (wireIn_any v w2 (V.out.below (gb_trans B0.out (below_of_keep K2.out)))).mono ?_
  rintro en w3 ⟨f, rfl, hf, -, hfc, hfe, hfi, -, hb⟩
  unfold edv
  have HF := Lib.hid hf; have HC := Lib.hid (And.intro hfc (And.intro hfe hfi))
  have A3 := Lib.hid (A2.out.below_more hb)
  have B23 := Lib.hid hb
  have Z3 := Lib.hid hb.size
  clear hf hfc hfe hfi hb p0 p1 p2 p3
  go_wp2_with fail
  refine (compOf_any A3.out f HF.out).mono ?_
  obtain ⟨h1, h2, h3, h4, h5, h6⟩ := polP_all (most := 4096) (T := edT f) (ns := [no, yes]) wf_start (by decide) 24 (by omega)
  have hoth := polP_other (most := 4096) (most' := M) (T := edT f) (ns := [no, yes]) wf_start (by decide) (by have := HM.out; simp; omega) 24 (by omega)
  generalize hP : polP 4096 (edT f) 24 [no, yes] = P at *
  obtain ⟨ns, L, er⟩ := P
  simp only at h1 h2 h3 h4 h5 h6 hoth
  subst h1
  have HOT := Lib.hid hoth
  have HL5 := Lib.hid h5
  clear hP h2 h3 h4 h5 h6 hoth
  rintro en w4 ⟨rfl, hA, hk⟩
  have A4 := Lib.hid hA
  have K4 := Lib.hid (K2.out.trans ((Keep.below B23.out).trans (hk.mono fun q hq => .inl (.inl hq))))
  have Z4 := Lib.hid hk.size
  have Bb4 : Hid (Ar w4 (fun q => q < w1.heap.size ∨ w2.heap.size ≤ q ∧ q < w4.heap.size) b [no, yes] M) := Lib.hid (Bb2.out.keepWide ((Keep.below B23.out).trans (hk.mono fun q hq => hq)) (fun q h1 h2 => ⟨.inl (.inr ⟨by omega, h2⟩), by omega⟩) (fun q hq => by have := Z2.out; have := Z3.out; have := Z4.out; omega))
  have C4 := Lib.hid ((hk.block _ (.inl (.inl X1.out)) (by have := gb_lt C2.out; have := Z3.out; omega)).trans (gb_blk B23.out C2.out (gb_lt C2.out)))
  have he : errv 0 = .nilIface := rfl
  simp only
  rw [he]
  clear he hA hk A2 A3 Bb2 B12 B23
  go_upto_region 5 with (refine wpList_store_rowTo rfl 29 _ _ rfl rfl w4.heap.size (outC L) rfl rfl _ _ (gb_new _ _) (by rw [outC_size]; kernel_rfl) (by rw [outC_size]; rfl) (outC_one L) ?_)
  have hb := setRow_heap _ w4.heap.size _ (outC L) _ _ (gb_new w4 (.cells (outC []) 29))
  have BB : Hid (Below w4.heap.size w4 ((w4.alloc (.cells (outC []) 29)).setRow w4.heap.size (outC L))) := Lib.hid (gb_setRow (gb_alloc (Below.refl _ _) _) (Nat.le_refl _) _)
  change Code.wp _ _ _ _ ((w4.alloc (.cells (outC []) 29)).setRow w4.heap.size (outC L))
  generalize (w4.alloc (.cells (outC []) 29)).setRow w4.heap.size (outC L) = w5 at *
  have P5 := Lib.hid hb
  have A5 := Lib.hid (A4.out.below BB.out)
  have Bb5 := Lib.hid (Bb4.out.below_more BB.out)
  have K5 := Lib.hid (K4.out.trans (Keep.below BB.out))
  have c5 := gb_blk BB.out C4.out (gb_lt C4.out)
  have Z5 := Lib.hid BB.out.size
  clear hb BB C4 C2
  obtain ⟨p0, p1, p2, p3⟩ := gb_cells4 c5
  go_wp2_with fail
  refine (wireIn_any v w5 (V.out.below (gb_trans B0.out (below_of_keep K5.out)))).mono ?_
  rintro en w6 ⟨g, rfl, hf, -, hfc, hfe, hfi, -, hb⟩
  unfold edv
  have HG := Lib.hid hf
  have HTT : Hid (edT g = edT f) := Lib.hid (edT_congr2 (by rw [hfc, HC.out.1]) (by rw [hfe, HC.out.2.1]) (by rw [hfi, HC.out.2.2]))
  have A6 := Lib.hid (A5.out.below hb)
  have Bb6 := Lib.hid (Bb5.out.below_more hb)
  have P6 := Lib.hid (gb_blk hb P5.out (gb_lt P5.out))
  have K6 := Lib.hid (K5.out.trans (Keep.below hb))
  have Z6 := Lib.hid hb.size
  clear hf hfc hfe hfi hb p0 p1 p2 p3 c5
  go_wp2_with fail
  have cO := compOf_any Bb6.out g HG.out
  rw [HTT.out] at cO
  refine cO.mono ?_
  clear cO
  rintro en w7 ⟨rfl, hA, hk⟩
  have Bb7 := Lib.hid hA
  have P7 := Lib.hid ((hk.block w4.heap.size (.inl (.inr ⟨Nat.le_refl _, gb_lt P5.out⟩)) (gb_lt P6.out)).trans P6.out)
  have A7 : Hid (Ar w7 (fun q => q < w0.heap.size) a ns 4096) := Lib.hid (A6.out.keepWide hk (fun q h1 h2 => by
    have := Z1.out; have := Z2.out; have := Z3.out; have := Z4.out; have := Z5.out; have := Z6.out
    omega) (fun q hq => by have := Z1.out; have := Z2.out; have := Z3.out; have := Z4.out; have := Z5.out; have := Z6.out; have := hk.size; omega))
  have K7 := Lib.hid (K6.out.trans (hk.mono fun q hq => .inl (.inl (.inl (by have := Z1.out; omega)))))
  clear hA hk A6 A5 A4 Bb6 Bb5 Bb4 P6 P5 K6 K5 K4
  rcases HOT.out with ⟨e, hl⟩ | ⟨e1, e2, hgt⟩
  · rw [e] at Bb7 ⊢
    have he : errv 0 = .nilIface := rfl
    simp only at Bb7 ⊢
    rw [he]
    clear he e hl
    go_upto_region 6 with (refine wpList_store_rowTo rfl 29 _ _ rfl rfl w7.heap.size (outC L) rfl rfl _ _ (gb_new _ _) (by rw [outC_size]; kernel_rfl) (by rw [outC_size]; rfl) (outC_one L) ?_)
    have hb := setRow_heap _ w7.heap.size _ (outC L) _ _ (gb_new w7 (.cells (outC []) 29))
    have BB : Hid (Below w7.heap.size w7 ((w7.alloc (.cells (outC []) 29)).setRow w7.heap.size (outC L))) := Lib.hid (gb_setRow (gb_alloc (Below.refl _ _) _) (Nat.le_refl _) _)
    change Code.wp _ _ _ _ ((w7.alloc (.cells (outC []) 29)).setRow w7.heap.size (outC L))
    generalize (w7.alloc (.cells (outC []) 29)).setRow w7.heap.size (outC L) = w8 at *
    have P8 := Lib.hid (gb_blk BB.out P7.out (gb_lt P7.out))
    have Q8 := Lib.hid hb
    have A8 := Lib.hid (A7.out.below BB.out)
    have Bb8 := Lib.hid (Bb7.out.below BB.out)
    have K8 := Lib.hid (K7.out.trans (Keep.below BB.out))
    clear hb BB
    have e13 : ∀ (w : World) (d : Nat), (Op.equalIn (d + 2) 29 (.agg (outC L)) (.agg (outC L))).run Tryd.prog w = .ok true w := fun w d => by
      rw [eq_policy w d L L HL5.out HL5.out]; simp
    go_wp2_with (first
      | (refine wpList_load_row rfl 29 _ rfl w4.heap.size rfl 29 (outC L) (0, 0) _ P8.out Tryd.underlying29 rfl (by rw [outC_size]; kernel_rfl) ?_)
      | (refine wpList_load_row rfl 29 _ rfl w7.heap.size rfl 29 (outC L) (0, 0) _ Q8.out Tryd.underlying29 rfl (by rw [outC_size]; kernel_rfl) ?_))
    refine (len_any A8.out).mono ?_
    rintro en w9 ⟨rfl, rfl⟩
    go_wp2_with fail
    refine (len_any Bb8.out).mono ?_
    rintro en w9 ⟨rfl, rfl⟩
    go_wp2_with fail
    go_ret
    exact ⟨ret_bool (by simp), gb_trans B0.out (below_of_keep K8.out)⟩
  · rw [e1, e2]
    have he : errv 8 = .iface 38 (.int .i64 8) := rfl
    rw [he]
    clear he e1 e2
    have HGT := Lib.hid hgt
    clear hgt
    go_upto_region 6 with (refine wpList_store_rowTo rfl 29 _ _ rfl rfl w7.heap.size (outC []) rfl rfl _ _ (gb_new _ _) (by rw [outC_size]; kernel_rfl) (by rw [outC_size]; rfl) (outC_one []) ?_)
    have hb := setRow_heap _ w7.heap.size _ (outC []) _ _ (gb_new w7 (.cells (outC []) 29))
    have BB : Hid (Below w7.heap.size w7 ((w7.alloc (.cells (outC []) 29)).setRow w7.heap.size (outC []))) := Lib.hid (gb_setRow (gb_alloc (Below.refl _ _) _) (Nat.le_refl _) _)
    change Code.wp _ _ _ _ ((w7.alloc (.cells (outC []) 29)).setRow w7.heap.size (outC []))
    generalize (w7.alloc (.cells (outC []) 29)).setRow w7.heap.size (outC []) = w8 at *
    have Q8 := Lib.hid hb
    have A8 := Lib.hid (A7.out.below BB.out)
    have K8 := Lib.hid (K7.out.trans (Keep.below BB.out))
    clear hb BB
    have BW := Lib.hid (gb_trans B0.out (below_of_keep K8.out))
    have e0 := eq_zero
    go_wp2_with fail
    refine (number_hit 8 w8 (G.out.below BW.out)).mono ?_
    rintro en w9 ⟨rfl, hb⟩
    have R9 := Lib.hid (gb_blk hb Q8.out (gb_lt Q8.out))
    have A9 := Lib.hid (A8.out.below hb)
    have B9 := Lib.hid (gb_trans BW.out hb)
    clear hb
    go_wp2_with (first
      | (refine wpList_load_row rfl 29 _ rfl w7.heap.size rfl 29 (outC []) (0, 0) _ R9.out Tryd.underlying29 rfl (by rw [outC_size]; kernel_rfl) ?_)
      | (refine wpList_load_rowG (by rfl) 29 _ rfl w7.heap.size rfl 29 (outC []) (0, 0) _ R9.out Tryd.underlying29 rfl (by rw [outC_size]; kernel_rfl) ?_))
    refine (len_any A9.out).mono ?_
    rintro en w10 ⟨rfl, rfl⟩
    go_wp2_with fail
    go_ret
    exact ⟨ret_bool (by have := HGT.out; have := HM.out; simp; omega), B9.out⟩
end Go.Proofs.YtimlfmklbfgliaaDoor
