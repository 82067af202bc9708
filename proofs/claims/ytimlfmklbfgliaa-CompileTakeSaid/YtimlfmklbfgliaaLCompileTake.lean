import Derived.Test.YtimlfmklbfgliaaEi
set_option linter.unusedVariables false
namespace Go.Proofs.Ytimlfmklbfgliaa
open Go.RowKit Mq

attribute [local go_sem high] eq_att
set_option maxRecDepth 100000 in
set_option maxHeartbeats 8000000 in
theorem walk_CompileTake (v : WiV) (e : EdV) (r : Att) (t c : Nat) (w : World) (hv : WiOk w v) (he : EdOk w e) (hr : r.Ok) (ht : t < 256) (hcost : c < 65536) :
    Calls Try.prog 6 #[.agg (wic v).toArray, .agg (edc e).toArray, .agg (attc r).toArray, .int .u8 t, .int .u16 c] w fun e w' => e = .returned (.bool true) ∧ Below w.heap.size w w' := by
  have V := Lib.hid hv; have E := Lib.hid he; have R := Lib.hid hr
  clear hv he hr
  unfold wic edc attc slv
  go_enter Try.func6, Try.ntmps6
  go_wp2_with fail
  have b1 := gb_old _ (.cells #[.bool r.ok, .int .i64 r.pref, .int .i64 r.cost, .int .u8 r.tags] 41) (gb_old _ (.cells #[.int .i64 e.from_, .int .i64 e.cost, .slice e.ex.A e.ex.l.length e.ex.cap, .slice e.im.A e.im.l.length e.im.cap] 30) (gb_new w (.cells #[.int .u8 v.from_, .int .u8 v.cost, .slice v.ex.A v.ex.l.length v.ex.cap, .slice v.im.A v.im.l.length v.im.cap] 24)))
  have b2 := gb_old _ (.cells #[.bool r.ok, .int .i64 r.pref, .int .i64 r.cost, .int .u8 r.tags] 41) (gb_new (w.alloc (.cells #[.int .u8 v.from_, .int .u8 v.cost, .slice v.ex.A v.ex.l.length v.ex.cap, .slice v.im.A v.im.l.length v.im.cap] 24)) (.cells #[.int .i64 e.from_, .int .i64 e.cost, .slice e.ex.A e.ex.l.length e.ex.cap, .slice e.im.A e.im.l.length e.im.cap] 30))
  have b3 := gb_new ((w.alloc (.cells #[.int .u8 v.from_, .int .u8 v.cost, .slice v.ex.A v.ex.l.length v.ex.cap, .slice v.im.A v.im.l.length v.im.cap] 24)).alloc (.cells #[.int .i64 e.from_, .int .i64 e.cost, .slice e.ex.A e.ex.l.length e.ex.cap, .slice e.im.A e.im.l.length e.im.cap] 30)) (.cells #[.bool r.ok, .int .i64 r.pref, .int .i64 r.cost, .int .u8 r.tags] 41)
  have hB := gb_alloc (gb_alloc (gb_alloc (Below.refl w.heap.size w) (.cells #[.int .u8 v.from_, .int .u8 v.cost, .slice v.ex.A v.ex.l.length v.ex.cap, .slice v.im.A v.im.l.length v.im.cap] 24)) (.cells #[.int .i64 e.from_, .int .i64 e.cost, .slice e.ex.A e.ex.l.length e.ex.cap, .slice e.im.A e.im.l.length e.im.cap] 30)) (.cells #[.bool r.ok, .int .i64 r.pref, .int .i64 r.cost, .int .u8 r.tags] 41)
  simp only [World.size_alloc] at b2 b3
  generalize ((w.alloc (.cells #[.int .u8 v.from_, .int .u8 v.cost, .slice v.ex.A v.ex.l.length v.ex.cap, .slice v.im.A v.im.l.length v.im.cap] 24)).alloc (.cells #[.int .i64 e.from_, .int .i64 e.cost, .slice e.ex.A e.ex.l.length e.ex.cap, .slice e.im.A e.im.l.length e.im.cap] 30)).alloc (.cells #[.bool r.ok, .int .i64 r.pref, .int .i64 r.cost, .int .u8 r.tags] 41) = W0 at *
  refine (awake14 W0).mono ?_
  rintro en w0 ⟨rfl, hb⟩
  have C1 := Lib.hid (gb_blk hb b1 (gb_lt b1))
  have C2 := Lib.hid (gb_blk hb b2 (gb_lt b2))
  have C3 := Lib.hid (gb_blk hb b3 (gb_lt b3))
  have B0 := Lib.hid (gb_trans hB hb)
  clear b1 b2 b3 hB hb
  go_wp2_with fail
  refine (of_any w0 4096 4096 (by decide)).mono ?_
  rintro en w1 ⟨a, rfl, hA, hk, hle⟩
  have A1 := Lib.hid hA; have K1 := Lib.hid hk
  have c1 := (hk.block _ (gb_lt C1.out) (gb_lt C1.out)).trans C1.out
  have c2 := (hk.block _ (gb_lt C2.out) (gb_lt C2.out)).trans C2.out
  have c3 := (hk.block _ (gb_lt C3.out) (gb_lt C3.out)).trans C3.out
  have D3 := Lib.hid c3
  have BK1 := Lib.hid (gb_trans B0.out (below_of_keep hk))
  have hS : ∀ w', Below w1.heap.size w1 w' → w'.cell? ⟨w.heap.size, 0, none⟩ = some (.int .u8 v.from_) ∧ w'.cell? ⟨w.heap.size, 1, none⟩ = some (.int .u8 v.cost) ∧ w'.cell? ⟨w.heap.size, 2, none⟩ = some (.slice v.ex.A v.ex.l.length v.ex.cap) ∧ w'.cell? ⟨w.heap.size, 3, none⟩ = some (.slice v.im.A v.im.l.length v.im.cap) ∧ w'.cell? ⟨w.heap.size + 1, 0, none⟩ = some (.int .i64 e.from_) ∧ w'.cell? ⟨w.heap.size + 1, 1, none⟩ = some (.int .i64 e.cost) ∧ w'.cell? ⟨w.heap.size + 1, 2, none⟩ = some (.slice e.ex.A e.ex.l.length e.ex.cap) ∧ w'.cell? ⟨w.heap.size + 1, 3, none⟩ = some (.slice e.im.A e.im.l.length e.im.cap) := fun w' hb => by
    have h := gb_blk hb c1 (gb_lt c1)
    have h' := gb_blk hb c2 (gb_lt c2)
    exact ⟨gb_cell h 0, gb_cell h 1, gb_cell h 2, gb_cell h 3, gb_cell h' 0, gb_cell h' 1, gb_cell h' 2, gb_cell h' 3⟩
  have HS := Lib.hid hS
  have BD := Lib.hid ((Below.refl w1.heap.size w1).drew)
  clear hS c1 c2 c3 C1 C2 hA hk hle
  go_upto_region 4 with fail
  go_region_held3 (fun w' => w'.cell? ⟨w.heap.size, 0, none⟩ = some (.int .u8 v.from_) ∧ w'.cell? ⟨w.heap.size, 1, none⟩ = some (.int .u8 v.cost) ∧ w'.cell? ⟨w.heap.size, 2, none⟩ = some (.slice v.ex.A v.ex.l.length v.ex.cap) ∧ w'.cell? ⟨w.heap.size, 3, none⟩ = some (.slice v.im.A v.im.l.length v.im.cap) ∧ w'.cell? ⟨w.heap.size + 1, 0, none⟩ = some (.int .i64 e.from_) ∧ w'.cell? ⟨w.heap.size + 1, 1, none⟩ = some (.int .i64 e.cost) ∧ w'.cell? ⟨w.heap.size + 1, 2, none⟩ = some (.slice e.ex.A e.ex.l.length e.ex.cap) ∧ w'.cell? ⟨w.heap.size + 1, 3, none⟩ = some (.slice e.im.A e.im.l.length e.im.cap))
    (first | exact HS.out _ BD.out | exact HS.out _ B8.out | go_keep)
    (first | (go_at_call 9; refine (wireIn_any v _ ((V.out.below BK1.out).below BD.out)).mono ?_; rintro en w8 ⟨f, rfl, hf, -, -, -, -, hin8, hb8⟩; unfold edv; have B8 := Lib.hid (gb_trans BD.out hb8); have HF8 := Lib.hid hf; have IN8 := Lib.hid hin8; clear hb8 hf hin8))
  go_wp2_with fail
  have b8 := gb_new w8 (.cells #[.int .i64 f.from_, .int .i64 f.cost, .slice f.ex.A f.ex.l.length f.ex.cap, .slice f.im.A f.im.l.length f.im.cap, .int .i64 e.from_, .int .i64 e.cost, .slice e.ex.A e.ex.l.length e.ex.cap, .slice e.im.A e.im.l.length e.im.cap] 30)
  have hb9 := gb_trans B8.out (gb_alloc (Below.refl w8.heap.size w8) (.cells #[.int .i64 f.from_, .int .i64 f.cost, .slice f.ex.A f.ex.l.length f.ex.cap, .slice f.im.A f.im.l.length f.im.cap, .int .i64 e.from_, .int .i64 e.cost, .slice e.ex.A e.ex.l.length e.ex.cap, .slice e.im.A e.im.l.length e.im.cap] 30))
  have hf := HF8.out.below (gb_alloc (Below.refl w8.heap.size w8) (.cells #[.int .i64 f.from_, .int .i64 f.cost, .slice f.ex.A f.ex.l.length f.ex.cap, .slice f.im.A f.im.l.length f.im.cap, .int .i64 e.from_, .int .i64 e.cost, .slice e.ex.A e.ex.l.length e.ex.cap, .slice e.im.A e.im.l.length e.im.cap] 30))
  have hs9 : (w8.alloc (.cells #[.int .i64 f.from_, .int .i64 f.cost, .slice f.ex.A f.ex.l.length f.ex.cap, .slice f.im.A f.im.l.length f.im.cap, .int .i64 e.from_, .int .i64 e.cost, .slice e.ex.A e.ex.l.length e.ex.cap, .slice e.im.A e.im.l.length e.im.cap] 30)).heap.size = w8.heap.size + 1 := by simp
  generalize hWl : w8.alloc (.cells #[.int .i64 f.from_, .int .i64 f.cost, .slice f.ex.A f.ex.l.length f.ex.cap, .slice f.im.A f.im.l.length f.im.cap, .int .i64 e.from_, .int .i64 e.cost, .slice e.ex.A e.ex.l.length e.ex.cap, .slice e.im.A e.im.l.length e.im.cap] 30) = Wl at *
  have S8 := Lib.hid b8
  have B9 := Lib.hid hb9
  have HEf := Lib.hid hf
  have HEe := Lib.hid (E.out.below (gb_trans BK1.out hb9))
  obtain ⟨X, hXd⟩ : ∃ X : Nat → Prop, ∀ q, X q ↔ (q < w0.heap.size ∨ w1.heap.size ≤ q ∧ q < Wl.heap.size) := ⟨fun q => _, fun _ => Iff.rfl⟩
  have A9 := Lib.hid ((A1.out.below_more hb9).mono fun q hq => (hXd q).1 hq)
  have HX : Hid (∀ q, X q → q < Wl.heap.size) := Lib.hid fun q hq => by
    have := K1.out.size; have := hb9.size; have := (hXd q).1 hq
    omega
  have INf : Hid (EdIn X f) := Lib.hid (IN8.out.mono fun q hq => (hXd q).2 (.inr ⟨by have := hq.1; have := BD.out.size; omega, by omega⟩))
  have INe : Hid (EdIn X e) := Lib.hid (E.out.low.mono fun q hq => (hXd q).2 (.inl (Nat.lt_of_lt_of_le hq B0.out.size)))
  have XB : Hid (X w8.heap.size) := Lib.hid ((hXd _).2 (.inr ⟨B8.out.size, by omega⟩))
  have XR : Hid (X (w.heap.size + 1 + 1)) := Lib.hid ((hXd _).2 (.inl (gb_lt C3.out)))
  have KX : Hid (∀ q, q < w0.heap.size → X q) := Lib.hid fun q hq => (hXd q).2 (.inl hq)
  have D9 := Lib.hid (gb_blk hb9 D3.out (gb_lt D3.out))
  have K9 : Hid (Keep (fun q => q < w0.heap.size) w0 Wl) := Lib.hid (K1.out.trans (Keep.below hb9))
  clear hXd hs9 hf hb9 b8 C3 D3 HS BD B8 HF8 IN8 K1 A1 BK1 V
  have HW : Hid (w8.heap.size < Wl.heap.size ∧ w.heap.size + 1 + 1 < Wl.heap.size) := Lib.hid ⟨gb_lt S8.out, gb_lt D9.out⟩
  clear hWl
  go_loopw [26] (fun j wr => ∃ (k : Nat) (ns : List Nd), j = .int .i64 k ∧ k ≤ 2 ∧ Ar wr X a ns 4096 ∧ ns.length ≤ 2 + 360 * k ∧ Keep X Wl wr) (fun j _ => 2 - (intOf j).toNat)
  case atStart => exact ⟨0, _, rfl, by omega, A9.out, by decide, Keep.refl _ _⟩
  case round =>
    obtain ⟨k, ns, rfl, hk, hA, hlen, hK⟩ := hrel
    have AR := Lib.hid hA; have KR := Lib.hid hK; have HLN := Lib.hid hlen
    clear hA hK hlen
    by_cases hlt : k < 2
    · obtain ⟨x, hx⟩ : ∃ x, [f, e][k]? = some x := ⟨_, List.getElem?_eq_getElem (by simpa using hlt)⟩
      have hxok : EdOk wr x ∧ EdIn X x := by
        have := List.mem_of_getElem? hx
        simp at this
        rcases this with rfl | rfl
        · exact ⟨HEf.out.keep INf.out KR.out, INf.out⟩
        · exact ⟨HEe.out.keep INe.out KR.out, INe.out⟩
      have HXK := Lib.hid hxok
      have s8 := (KR.out.block _ XB.out HW.out.1).trans S8.out
      obtain ⟨e0, e1, e2, e3⟩ := eds_get (es := [f, e]) (Sli.both (enc := edc) (size := 4) (u := f) (v := e) s8 (gb_lt s8) (fun _ => rfl)) hx
      have r8 := Lib.hid ((KR.out.block _ XR.out HW.out.2).trans D9.out)
      clear hx hxok s8
      go_upto_region 7 with fail
      have t0 := gb_new wr (.cells #[.int .i64 x.from_, .int .i64 x.cost, .slice x.ex.A x.ex.l.length x.ex.cap, .slice x.im.A x.im.l.length x.im.cap] 30)
      have hb0 := gb_alloc (Below.refl wr.heap.size wr) (.cells #[.int .i64 x.from_, .int .i64 x.cost, .slice x.ex.A x.ex.l.length x.ex.cap, .slice x.im.A x.im.l.length x.im.cap] 30)
      have a0 := AR.out.alloc (.cells #[.int .i64 x.from_, .int .i64 x.cost, .slice x.ex.A x.ex.l.length x.ex.cap, .slice x.im.A x.im.l.length x.im.cap] 30)
      have r9 := gb_blk hb0 r8.out (gb_lt r8.out)
      obtain ⟨xb, hxb⟩ : ∃ n, n = wr.heap.size := ⟨_, rfl⟩
      rw [← hxb] at t0 a0 ⊢
      have k0 : Keep X Wl (wr.alloc (.cells #[.int .i64 x.from_, .int .i64 x.cost, .slice x.ex.A x.ex.l.length x.ex.cap, .slice x.im.A x.im.l.length x.im.cap] 30)) := KR.out.trans (Keep.below hb0)
      have x0 := HXK.out.1.below hb0
      clear e0 e1 e2 e3
      generalize wr.alloc (.cells #[.int .i64 x.from_, .int .i64 x.cost, .slice x.ex.A x.ex.l.length x.ex.cap, .slice x.im.A x.im.l.length x.im.cap] 30) = wu at *
      have T0 := Lib.hid t0; have A0 := Lib.hid a0; have R9 := Lib.hid r9; have K0 := Lib.hid k0; have X0 := Lib.hid x0
      obtain ⟨z0, z1, z2, z3⟩ := gb_cells4 t0
      clear t0 a0 r9 k0 x0 hb0 hxb
      go_wp2_with fail
      refine (compAll_any A0.out (by have := HLN.out; omega) x X0.out).mono ?_
      rintro en w5 ⟨ns', L, rfl, hA, hk5, hext, hlen, hL⟩
      have A5 := Lib.hid hA; have K5 := Lib.hid hk5; have HLL := Lib.hid hL; have HLN2 := Lib.hid (show ns'.length ≤ 2 + 360 * (k + 1) by have := HLN.out; omega)
      have T5 := Lib.hid ((hk5.block xb (.inr rfl) (gb_lt T0.out)).trans T0.out)
      have R5 := Lib.hid ((hk5.block _ (.inl XR.out) (gb_lt R9.out)).trans R9.out)
      clear hA hk5 hext hlen hL z0 z1 z2 z3
      go_upto_region 8 with (refine wpList_store_rowTo rfl 33 _ _ rfl rfl w5.heap.size (outC L) rfl rfl _ _ (gb_new _ _) (by rw [outC_size]; kernel_rfl) (by rw [outC_size]; rfl) (outC_one L) ?_)
      have hb := setRow_heap _ w5.heap.size _ (outC L) _ _ (gb_new w5 (.cells (outC []) 33))
      have BB : Hid (Below w5.heap.size w5 ((w5.alloc (.cells (outC []) 33)).setRow w5.heap.size (outC L))) := Lib.hid (gb_setRow (gb_alloc (Below.refl _ _) _) (Nat.le_refl _) _)
      change Code.wp _ _ _ _ ((w5.alloc (.cells (outC []) 33)).setRow w5.heap.size (outC L))
      generalize (w5.alloc (.cells (outC []) 33)).setRow w5.heap.size (outC L) = w6 at *
      have P6 := Lib.hid hb
      have A6 := Lib.hid (A5.out.below BB.out)
      have T6 := Lib.hid (gb_blk BB.out T5.out (gb_lt T5.out))
      have r6 := gb_blk BB.out R5.out (gb_lt R5.out)
      have K6 := Lib.hid ((K0.out.trans (K5.out.mono fun q hq => .inl hq)).trans (Keep.below BB.out))
      have X6 : Hid (EdOk w6 x) := Lib.hid ((X0.out.keep (HXK.out.2.mono fun q hq => .inl hq) K5.out).below BB.out)
      clear hb
      obtain ⟨y0, y1, y2, y3⟩ := gb_cells4 r6
      have hrem : Int.tmod (t : Int) 16 = ((t % 16 : Nat) : Int) := by rw [Int.tmod_eq_emod_of_nonneg (by omega)]; omega
      have hrem2 : Int.tmod (r.tags : Int) 16 = ((r.tags % 16 : Nat) : Int) := by rw [Int.tmod_eq_emod_of_nonneg (by omega)]; omega
      have hwc : IntKind.i64.wrap (c : Int) = (c : Int) := by rw [IntKind.wrap_i64]; omega
      go_wp2_with fail
      rw [show (t : Int) % 16 = ((t % 16 : Nat) : Int) by omega, show (r.tags : Int) % 16 = ((r.tags % 16 : Nat) : Int) by omega]
      have b7 := gb_new w6 (.cells #[.bool true, .int .i64 100, .int .i64 c, .int .u8 (t % 16 : Nat), .bool r.ok, .int .i64 r.pref, .int .i64 c, .int .u8 (r.tags % 16 : Nat)] 41)
      have hb7 := gb_alloc (Below.refl w6.heap.size w6) (.cells #[.bool true, .int .i64 100, .int .i64 c, .int .u8 (t % 16 : Nat), .bool r.ok, .int .i64 r.pref, .int .i64 c, .int .u8 (r.tags % 16 : Nat)] 41)
      have a7 := A6.out.below hb7
      have p7 := gb_blk hb7 P6.out (gb_lt P6.out)
      have t7 := gb_blk hb7 T6.out (gb_lt T6.out)
      have x7 := X6.out.below hb7
      have k7 := K6.out.trans (Keep.below hb7)
      clear y0 y1 y2 y3 r6
      generalize w6.alloc (.cells #[.bool true, .int .i64 100, .int .i64 c, .int .u8 (t % 16 : Nat), .bool r.ok, .int .i64 r.pref, .int .i64 c, .int .u8 (r.tags % 16 : Nat)] 41) = w7 at *
      have S7 := Lib.hid b7; have A7 := Lib.hid a7; have P7 := Lib.hid p7; have T7 := Lib.hid t7; have X7 := Lib.hid x7; have K7 := Lib.hid k7
      clear b7 a7 p7 t7 x7 k7 hb7 hrem hrem2 hwc
      go_loopw [55] (fun j wq => ∃ m : Nat, j = .int .i64 m ∧ m ≤ 2 ∧ Below w7.heap.size w7 wq) (fun j _ => 2 - (intOf j).toNat)
      case atStart => exact ⟨0, rfl, by omega, Below.refl _ _⟩
      case round =>
        obtain ⟨m, rfl, hm, hb⟩ := hrel
        have BQ := Lib.hid hb
        by_cases hml : m < 2
        · obtain ⟨y, hy⟩ : ∃ y, [(⟨true, 100, c, t % 16⟩ : Att), ⟨r.ok, r.pref, c, r.tags % 16⟩][m]? = some y := ⟨_, List.getElem?_eq_getElem (by simpa using hml)⟩
          have hyok : y.Ok ∧ 0 ≤ y.cost ∧ y.cost ≤ 9000000000 ∧ y.tags < 16 := by
            have := List.mem_of_getElem? hy
            simp at this
            rcases this with rfl | rfl
            · exact ⟨att_ok (by omega) (by omega) (by omega) (by omega) (by omega), by simp, by simp only; omega, by simp only; omega⟩
            · exact ⟨⟨R.out.pref, by unfold is64; simp only; omega, by simp only; omega⟩, by simp, by simp only; omega, by simp only; omega⟩
          have HY := Lib.hid hyok
          have s7 := gb_blk hb S7.out (gb_lt S7.out)
          obtain ⟨e0, e1, e2, e3⟩ := ats_get (es := [(⟨true, 100, c, t % 16⟩ : Att), ⟨r.ok, r.pref, c, r.tags % 16⟩]) (Sli.both (enc := attc) (size := 4) (u := ⟨true, 100, c, t % 16⟩) (v := ⟨r.ok, r.pref, c, r.tags % 16⟩) s7 (gb_lt s7) (fun _ => rfl)) hy
          clear hy hyok s7 hb
          go_upto_region 13 with fail
          have t0 := gb_new wr (.cells #[.bool y.ok, .int .i64 y.pref, .int .i64 y.cost, .int .u8 y.tags] 41)
          have hbq := gb_trans BQ.out (gb_alloc (Below.refl wr.heap.size wr) (.cells #[.bool y.ok, .int .i64 y.pref, .int .i64 y.cost, .int .u8 y.tags] 41))
          clear e0 e1 e2 e3
          obtain ⟨yb, hyb⟩ : ∃ n, n = wr.heap.size := ⟨_, rfl⟩
          rw [← hyb] at t0 ⊢
          generalize wr.alloc (.cells #[.bool y.ok, .int .i64 y.pref, .int .i64 y.cost, .int .u8 y.tags] 41) = W at *
          have BW := Lib.hid hbq
          have AW := Lib.hid (A7.out.below hbq)
          have XW := Lib.hid (X7.out.below hbq)
          have PW := Lib.hid (gb_blk hbq P7.out (gb_lt P7.out))
          have tx := gb_blk hbq T7.out (gb_lt T7.out)
          obtain ⟨p5, q5, r5, s5⟩ := in_cells4 t0
          obtain ⟨p6, q6, r6, s6⟩ := in_cells4 tx
          clear t0 tx hbq hyb
          have hPW : ∀ z, (∃ x : InW (Below W.heap.size W), z = x.val) → z.heap[w5.heap.size]? = some (.cells (outC L) 33 (0, 0)) := by
            rintro _ ⟨z, rfl⟩
            exact gb_blk z.prop PW.out (gb_lt PW.out)
          have HPW := Lib.hid hPW
          have HE := Lib.hid (comp_take (x := x) HY.out.2.1 HY.out.2.2.1 HY.out.2.2.2)
          obtain ⟨r1, hr1⟩ : ∃ r, r = edTake x y := ⟨_, rfl⟩
          have k1 : ∀ z : InW (Below W.heap.size W), Calls Try.prog 17 #[.pointer (some ⟨a, 0, none⟩), .agg (outC L), .agg #[.bool y.ok, .int .i64 y.pref, .int .i64 y.cost, .int .u8 y.tags]] z.val fun e w' => e = .returned (.agg #[.bool r1.ok, .int .i64 r1.pref, .int .i64 r1.cost, .int .u8 r1.tags]) ∧ ∃ y : InW (Below W.heap.size W), w' = y.val :=
            calls_in fun w' hb => by
              have := compTake_any (AW.out.below hb) x L HLL.out y (by have := HY.out.2.2.2; omega) HY.out.2.1 HY.out.2.2.1 HY.out.1.pref
              rw [HE.out, ← hr1] at this
              exact this
          have k1H := Lib.hid k1
          clear k1
          have k2 : ∀ z : InW (Below W.heap.size W), Calls Try.prog 18 #[.agg #[.int .i64 x.from_, .int .i64 x.cost, .slice x.ex.A x.ex.l.length x.ex.cap, .slice x.im.A x.im.l.length x.im.cap], .agg #[.bool y.ok, .int .i64 y.pref, .int .i64 y.cost, .int .u8 y.tags]] z.val fun e w' => e = .returned (.agg #[.bool r1.ok, .int .i64 r1.pref, .int .i64 r1.cost, .int .u8 r1.tags]) ∧ ∃ y : InW (Below W.heap.size W), w' = y.val :=
            calls_in fun w' hb => by
              have := take_any x y HY.out.1 w' (XW.out.below hb)
              rw [← hr1] at this
              exact this
          have k2H := Lib.hid k2
          clear k2 hr1 hPW
          refine wp_region_in (Below W.heap.size W) (by kernel_rfl) (by kernel_rfl) (Below.refl _ _).drew ?_
          repeat (first
            | (go_big_quiet_want; refine quiet_load_row 33 _ rfl w5.heap.size rfl 33 (outC L) (0, 0) _ HPW.out Try.underlying33 rfl (by rw [outC_size]; kernel_rfl) ?_; go_frame; go_big_quiet_on)
            | go_big_quiet_step (first | (with_reducible exact k1H.out _) | (with_reducible exact k2H.out _)))
          refine wpQuiet_nil ?_
          rintro _ ⟨⟨w9, hb⟩, rfl⟩
          have BF := Lib.hid (gb_trans BW.out hb)
          clear hb p5 q5 r5 s5 p6 q6 r6 s6
          go_wp2_with fail
          go_roundw
          case rel => exact ⟨m + 1, by go_num, by omega, BF.out⟩
          case measure => simp [intOf] <;> omega
        · have hm' : m = 2 := by omega
          subst hm'
          go_wp2_with fail
          go_roundw
          case rel => exact ⟨k + 1, ns', by go_num, by omega, (A7.out.below BQ.out).mono (fun q hq => .inl hq), HLN2.out, K7.out.trans (Keep.below BQ.out)⟩
          case measure => simp [intOf] <;> omega
    · have hk' : k = 2 := by omega
      subst hk'
      go_wp2_with fail
      go_ret
      exact ⟨rfl, gb_trans B0.out (below_of_keep (K9.out.trans (KR.out.mono KX.out)))⟩
end Go.Proofs.Ytimlfmklbfgliaa
