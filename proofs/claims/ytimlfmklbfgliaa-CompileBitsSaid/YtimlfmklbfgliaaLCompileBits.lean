import Derived.Test.YtimlfmklbfgliaaBt
set_option linter.unusedVariables false
namespace Go.Proofs.Ytimlfmklbfgliaa
open Go.RowKit Mq

theorem csLen (L : List Nat) : ((List.range 24).map fun j => Value.int .i64 (L.getD j 0 : Nat)).length = 24 := by simp
theorem bit_tags (q : Att) (h : q.Row) (hok : q.ok = true) {k : Nat} (h1 : 1 ≤ k) (h5 : k < 5) : (bits BinOp.and IntKind.u8 (q.tags : Int) (2 ^ (k - 1) % 256) != 0) = bitN q k := by
  have e := and_u8 (k - 1) (by omega) q.tags h.tags
  have : bitN q k = q.tags.testBit (k - 1) := by unfold bitN; rw [if_neg (by simp [hok]; omega), if_pos (by omega)]
  rw [this, bne, show ∀ z : Int, (z == 0) = decide (z = 0) from fun z => by rw [Bool.eq_iff_iff]; simp, e]; simp
theorem bit_pref (q : Att) (h : q.Row) (hok : q.ok = true) {k : Nat} (h5 : ¬ k < 5) (h13 : k < 13) : (bits BinOp.and IntKind.i64 q.pref (wrap64 (2 ^ (k - 5))) != 0) = bitN q k := by
  have := h.pref
  have e := and_i64 (p := q.pref.toNat) (s := k - 5) (by omega) (by omega)
  rw [show ((q.pref.toNat : Nat) : Int) = q.pref by omega] at e
  have : bitN q k = q.pref.toNat.testBit (k - 5) := by unfold bitN; rw [if_neg (by simp [hok]; omega), if_neg (by omega), if_pos (by omega)]
  rw [this, bne, show ∀ z : Int, (z == 0) = decide (z = 0) from fun z => by rw [Bool.eq_iff_iff]; simp, e]; simp
theorem bit_cost (q : Att) (h : q.Row) (hok : q.ok = true) {k : Nat} (h13 : ¬ k < 13) (hlt : k < 24) : (bits BinOp.and IntKind.i64 q.cost (wrap64 (2 ^ (k - 13))) != 0) = bitN q k := by
  have := h.cost
  have e := and_i64 (p := q.cost.toNat) (s := k - 13) (by omega) (by omega)
  rw [show ((q.cost.toNat : Nat) : Int) = q.cost by omega] at e
  have : bitN q k = q.cost.toNat.testBit (k - 13) := by unfold bitN; rw [if_neg (by simp [hok]; omega), if_neg (by omega), if_neg (by omega)]
  rw [this, bne, show ∀ z : Int, (z == 0) = decide (z = 0) from fun z => by rw [Bool.eq_iff_iff]; simp, e]; simp
theorem row_q {e : EdV} {t : Nat} {q : Att} (hq : edRow e t = q) (ht : t < 256) (w : World) (he : EdOk w e) :
    Calls Try.prog 12 #[.agg #[.int .i64 e.from_, .int .i64 e.cost, .slice e.ex.A e.ex.l.length e.ex.cap, .slice e.im.A e.im.l.length e.im.cap], .int .u8 t] w
      fun en w' => en = .returned (.tuple #[.agg #[.bool q.ok, .int .i64 q.pref, .int .i64 q.cost, .int .u8 q.tags], .bool q.ok]) ∧ Below w.heap.size w w' := by
  subst hq; exact row_any e t ht w he
set_option maxRecDepth 100000 in
set_option maxHeartbeats 1000000 in
theorem walk_CompileBits (v : WiV) (t : Nat) (w : World) (hv : WiOk w v) (ht : t < 256) :
    Calls Try.prog 4 #[.agg (wic v).toArray, .int .u8 t] w fun e w' => e = .returned (.bool true) ∧ Below w.heap.size w w' := by
  have V := Lib.hid hv
  clear hv
  unfold wic slv
  go_enter Try.func4, Try.ntmps4
  go_wp2_with fail
  have b1 := gb_old _ (.cells #[.int .u8 t] 5) (gb_new w (.cells #[.int .u8 v.from_, .int .u8 v.cost, .slice v.ex.A v.ex.l.length v.ex.cap, .slice v.im.A v.im.l.length v.im.cap] 24))
  have b2 := gb_new (w.alloc (.cells #[.int .u8 v.from_, .int .u8 v.cost, .slice v.ex.A v.ex.l.length v.ex.cap, .slice v.im.A v.im.l.length v.im.cap] 24)) (.cells #[.int .u8 t] 5)
  have hB := gb_alloc (gb_alloc (Below.refl w.heap.size w) (.cells #[.int .u8 v.from_, .int .u8 v.cost, .slice v.ex.A v.ex.l.length v.ex.cap, .slice v.im.A v.im.l.length v.im.cap] 24)) (.cells #[.int .u8 t] 5)
  simp only [World.size_alloc] at b2
  generalize (w.alloc (.cells #[.int .u8 v.from_, .int .u8 v.cost, .slice v.ex.A v.ex.l.length v.ex.cap, .slice v.im.A v.im.l.length v.im.cap] 24)).alloc (.cells #[.int .u8 t] 5) = W0 at *
  refine (awake14 W0).mono ?_
  rintro en w0 ⟨rfl, hb⟩
  have C1 := Lib.hid (gb_blk hb b1 (gb_lt b1))
  have C2 := Lib.hid (gb_blk hb b2 (gb_lt b2))
  have B0 := Lib.hid (gb_trans hB hb)
  clear b1 b2 hB hb
  go_wp2_with fail
  refine (of_any w0 4096 4096 (by decide)).mono ?_
  rintro en w1 ⟨a, rfl, hA, hk, hle⟩
  go_upto_region 4 with fail
  have c0 := gb_new w1 (.cells #[.pointer (some ⟨a, 0, none⟩)] 26)
  have k0 : Keep (fun q => q < w0.heap.size) w0 (w1.alloc (.cells #[.pointer (some ⟨a, 0, none⟩)] 26)) := hk.alloc _
  have a0 : Ar (w1.alloc (.cells #[.pointer (some ⟨a, 0, none⟩)] 26)) (fun q => q < w0.heap.size ∨ q = w1.heap.size) a [no, yes] 4096 := hA.alloc _
  have hab : w0.heap.size ≤ w1.heap.size := hk.size
  obtain ⟨ab, hab2⟩ : ∃ n, n = w1.heap.size := ⟨_, rfl⟩
  have hs2 : (w1.alloc (.cells #[.pointer (some ⟨a, 0, none⟩)] 26)).heap.size = ab + 1 := by rw [hab2]; simp
  rw [← hab2] at c0 a0 hab ⊢
  generalize w1.alloc (.cells #[.pointer (some ⟨a, 0, none⟩)] 26) = w2 at *
  have C0 := Lib.hid c0
  have A2 := Lib.hid a0
  have c1 := (k0.block _ (gb_lt C1.out) (gb_lt C1.out)).trans C1.out
  have c2 := (k0.block _ (gb_lt C2.out) (gb_lt C2.out)).trans C2.out
  have D1 := Lib.hid c1; have D2 := Lib.hid c2
  have B2 := Lib.hid (gb_trans B0.out (below_of_keep k0))
  have K2 := Lib.hid k0
  have X1 : Hid (w.heap.size < w0.heap.size) := Lib.hid (gb_lt C1.out)
  have X2 : Hid (w.heap.size + 1 < w0.heap.size) := Lib.hid (gb_lt C2.out)
  generalize w.heap.size + 1 = bu at *
  have HN : Hid (∀ q, (q < w0.heap.size ∨ q = ab) → q < w2.heap.size) := Lib.hid fun q hq => by omega
  have hS : ∀ w', Keep (fun q => q < w0.heap.size ∨ q = ab) w2 w' → w'.cell? ⟨w.heap.size, 0, none⟩ = some (.int .u8 v.from_) ∧ w'.cell? ⟨w.heap.size, 1, none⟩ = some (.int .u8 v.cost) ∧ w'.cell? ⟨w.heap.size, 2, none⟩ = some (.slice v.ex.A v.ex.l.length v.ex.cap) ∧ w'.cell? ⟨w.heap.size, 3, none⟩ = some (.slice v.im.A v.im.l.length v.im.cap) ∧ w'.cell? ⟨ab, 0, none⟩ = some (.pointer (some ⟨a, 0, none⟩)) := fun w' hk => by
    have h := (hk.block _ (.inl X1.out) (gb_lt c1)).trans c1
    have h' := (hk.block _ (.inr rfl) (gb_lt c0)).trans c0
    exact ⟨gb_cell h 0, gb_cell h 1, gb_cell h 2, gb_cell h 3, gb_cell h' 0⟩
  have HS := Lib.hid hS
  have BD := Lib.hid ((Below.refl w2.heap.size w2).drew)
  clear hS c0 c1 c2 k0 a0 hA hk hle hab hab2 hs2 C1 C2
  go_cut [6, 7] (fun s6 s7 wx => ∃ (pb : Nat) (X : Nat → Prop) (ns : List Nd) (L : List Nat) (f : EdV), s6 = .pointer (some ⟨pb, 0, none⟩) ∧ s7 = .nilIface ∧ Hid (PolSt w2 wx (fun q => q < w0.heap.size ∨ q = ab) X a pb 4096 ns L ∧ PolOk ns (edT f) L ∧ f.cost = 1 + (v.cost : Int) % 3 ∧ f.ex.l = plainL v.ex.l ∧ f.im.l = plainL v.im.l))
  case first =>
    go_region_held3 (fun w' => w'.cell? ⟨w.heap.size, 0, none⟩ = some (.int .u8 v.from_) ∧ w'.cell? ⟨w.heap.size, 1, none⟩ = some (.int .u8 v.cost) ∧ w'.cell? ⟨w.heap.size, 2, none⟩ = some (.slice v.ex.A v.ex.l.length v.ex.cap) ∧ w'.cell? ⟨w.heap.size, 3, none⟩ = some (.slice v.im.A v.im.l.length v.im.cap) ∧ w'.cell? ⟨ab, 0, none⟩ = some (.pointer (some ⟨a, 0, none⟩)))
      (first | exact HS.out _ (by repeat (with_reducible first | exact Keep.below BD.out | exact K9.out | exact Keep.below B8.out | exact Keep.refl _ _ | refine Keep.alloc ?_ _ | refine Keep.drew ?_ | refine keep_setCells ?_ (fun h => absurd (HN.out _ h) (by have := LO.out; omega)) _ _)))
      (first
        | (go_at_call 9; refine (wireIn_any v _ ((V.out.below B2.out).below (by repeat (with_reducible first | exact BD.out | exact Below.refl _ _ | refine gb_alloc ?_ _ | refine Below.drew ?_)))).mono ?_; rintro en w8 ⟨f, rfl, hf, -, hfc, hfe, hfi, hin8, hb8⟩; unfold edv; have B8 := Lib.hid (gb_trans (show Below w2.heap.size w2 _ by repeat (with_reducible first | exact BD.out | exact Below.refl _ _ | refine gb_alloc ?_ _ | refine Below.drew ?_)) hb8); have HF8 := Lib.hid hf; have HFC := Lib.hid (And.intro hfc (And.intro hfe hfi)); (first | (have T8 := Lib.hid (gb_blk hb8 (gb_new w2.drew (.cells #[.int .i64 0, .int .i64 0, .int .i64 0, .int .i64 0, .int .i64 0, .int .i64 0, .int .i64 0, .int .i64 0, .int .i64 0, .int .i64 0, .int .i64 0, .int .i64 0, .int .i64 0, .int .i64 0, .int .i64 0, .int .i64 0, .int .i64 0, .int .i64 0, .int .i64 0, .int .i64 0, .int .i64 0, .int .i64 0, .int .i64 0, .int .i64 0] 33)) (by simp <;> omega))) | skip); clear hb8 hf hin8 hfc hfe hfi)
        | (go_at_call 10; refine (compAll_any (A2.out.below_more (show Below w2.heap.size w2 _ by repeat (with_reducible first | exact B8.out | refine gb_alloc ?_ _))) (by decide) f (HF8.out.below (by repeat (with_reducible first | exact Below.refl _ _ | refine gb_alloc ?_ _)))).mono ?_; rintro en w9 ⟨ns', L, rfl, hA9, hk9, hext, hlen, hL⟩; have K9 := Lib.hid ((Keep.below (X := fun q => q < w0.heap.size ∨ q = ab) (show Below w2.heap.size w2 _ by repeat (with_reducible first | exact B8.out | refine gb_alloc ?_ _))).trans (hk9.mono fun q hq => .inl hq)); have A9 := Lib.hid hA9; have HL := Lib.hid hL; have z8 := B8.out.size;
            have z9 := K9.out.size; (first | (have LO : Hid (w2.heap.size ≤ w2.heap.size) := Lib.hid (Nat.le_refl _); have T9 := Lib.hid ((hk9.block w2.heap.size (.inr ⟨Nat.le_refl _, gb_lt T8.out⟩) (gb_lt T8.out)).trans T8.out); have LI := Lib.hid (gb_lt T8.out); have TH : w9.there w2.heap.size 0 ((List.range 24).map fun j => Value.int .i64 (L.getD j 0 : Nat)).length := (by rw [csLen]; exact there_new T9.out)) | (have LO : Hid (w2.heap.size ≤ w8.heap.size) := Lib.hid z8; have T9 := Lib.hid ((hk9.block w8.heap.size (.inr ⟨z8, by simp⟩) (by simp)).trans (gb_new w8 (.cells #[.int .i64 0, .int .i64 0, .int .i64 0, .int .i64 0, .int .i64 0, .int .i64 0, .int .i64 0, .int .i64 0, .int .i64 0, .int .i64 0, .int .i64 0, .int .i64 0, .int .i64 0, .int .i64 0, .int .i64 0, .int .i64 0, .int .i64 0, .int .i64 0, .int .i64 0, .int .i64 0, .int .i64 0, .int .i64 0, .int .i64 0, .int .i64 0] 33))); have LI : Hid (w8.heap.size < (w8.alloc (.cells #[.int .i64 0, .int .i64 0, .int .i64 0, .int .i64 0, .int .i64 0, .int .i64 0, .int .i64 0, .int .i64 0, .int .i64 0, .int .i64 0, .int .i64 0, .int .i64 0, .int .i64 0, .int .i64 0, .int .i64 0, .int .i64 0, .int .i64 0, .int .i64 0, .int .i64 0, .int .i64 0, .int .i64 0, .int .i64 0, .int .i64 0, .int .i64 0] 33)).heap.size) := Lib.hid (by simp); have TH : w9.there w8.heap.size 0 ((List.range 24).map fun j => Value.int .i64 (L.getD j 0 : Nat)).length := (by rw [csLen]; exact there_new T9.out)) | (have LO : Hid (w2.heap.size ≤ w9.heap.size) := Lib.hid z9; have TH : (w9.alloc (.cells #[.int .i64 0, .int .i64 0, .int .i64 0, .int .i64 0, .int .i64 0, .int .i64 0, .int .i64 0, .int .i64 0, .int .i64 0, .int .i64 0, .int .i64 0, .int .i64 0, .int .i64 0, .int .i64 0, .int .i64 0, .int .i64 0, .int .i64 0, .int .i64 0, .int .i64 0, .int .i64 0, .int .i64 0, .int .i64 0, .int .i64 0, .int .i64 0] 33)).there w9.heap.size 0 ((List.range 24).map fun j => Value.int .i64 (L.getD j 0 : Nat)).length := (by rw [csLen]; exact there_new (gb_new w9 (.cells #[.int .i64 0, .int .i64 0, .int .i64 0, .int .i64 0, .int .i64 0, .int .i64 0, .int .i64 0, .int .i64 0, .int .i64 0, .int .i64 0, .int .i64 0, .int .i64 0, .int .i64 0, .int .i64 0, .int .i64 0, .int .i64 0, .int .i64 0, .int .i64 0, .int .i64 0, .int .i64 0, .int .i64 0, .int .i64 0, .int .i64 0, .int .i64 0] 33)))));
            have HI : (Try.prog.info? 33).map (·.size) = some ((List.range 24).map fun j => Value.int .i64 (L.getD j 0 : Nat)).length := (by rw [csLen]; kernel_rfl); have HA : ∀ u ∈ ((List.range 24).map fun j => Value.int .i64 (L.getD j 0 : Nat)), u.oneCell' = true := (by simp [Value.oneCell']); clear hA9 hk9 hext hlen hL))
    all_goals (go_wp2_with fail; go_meet)
    all_goals (
      first
        | (obtain ⟨X, hX⟩ := polSt_old (L := L) (X2 := fun q => q < w0.heap.size ∨ q = ab) A9.out K9.out T9.out bare_size LO.out LI.out HN.out
           refine ⟨_, X, ns', L, f, rfl, rfl, Lib.hid ⟨?_, HL.out, HFC.out⟩⟩
           with_reducible exact hX.out)
        | (obtain ⟨X, hX⟩ := polSt_new (L := L) (X2 := fun q => q < w0.heap.size ∨ q = ab) A9.out K9.out bare_size HN.out
           refine ⟨_, X, ns', L, f, rfl, rfl, Lib.hid ⟨?_, HL.out, HFC.out⟩⟩
           with_reducible exact hX.out))
  case rest =>
    obtain ⟨pb, X, ns, L, f, rfl, rfl, HP⟩ := hcut
    obtain ⟨w3, hw3⟩ : ∃ x, x = wc := ⟨_, rfl⟩
    subst hw3
    have P := Lib.hid HP.out.1
    have PK := Lib.hid HP.out.2.1
    have HF := Lib.hid HP.out.2.2
    have e1 := (P.out.keep.block _ (.inl X1.out) (gb_lt D1.out)).trans D1.out
    have e2 := (P.out.keep.block _ (.inl X2.out) (gb_lt D2.out)).trans D2.out
    have e0 := (P.out.keep.block _ (.inr rfl) (gb_lt C0.out)).trans C0.out
    have E0 := Lib.hid e0; have E2 := Lib.hid e2
    have K3 : Hid (Keep (fun q => q < w0.heap.size) w0 w3) := Lib.hid (K2.out.trans (P.out.keep.mono fun q hq => .inl hq))
    have B3 := Lib.hid (gb_trans B0.out (below_of_keep K3.out))
    have hS : ∀ w', Below w3.heap.size w3 w' → w'.cell? ⟨w.heap.size, 0, none⟩ = some (.int .u8 v.from_) ∧ w'.cell? ⟨w.heap.size, 1, none⟩ = some (.int .u8 v.cost) ∧ w'.cell? ⟨w.heap.size, 2, none⟩ = some (.slice v.ex.A v.ex.l.length v.ex.cap) ∧ w'.cell? ⟨w.heap.size, 3, none⟩ = some (.slice v.im.A v.im.l.length v.im.cap) ∧ w'.cell? ⟨bu, 0, none⟩ = some (.int .u8 t) := fun w' hb => by
      have h := gb_blk hb e1 (gb_lt e1)
      have h' := gb_blk hb e2 (gb_lt e2)
      exact ⟨gb_cell h 0, gb_cell h 1, gb_cell h 2, gb_cell h 3, gb_cell h' 0⟩
    have HS := Lib.hid hS
    have BD := Lib.hid ((Below.refl w3.heap.size w3).drew)
    obtain ⟨m, hm⟩ : ∃ m, m = t % 16 := ⟨_, rfl⟩
    have hrem : Int.tmod (t : Int) 16 = (m : Int) := by rw [Int.tmod_eq_emod_of_nonneg (by omega)]; omega
    have M16 : Hid (m < 16) := Lib.hid (by omega)
    have HM := Lib.hid hm
    obtain ⟨q, hq⟩ : ∃ q, q = edRow f m := ⟨_, rfl⟩
    have HQ := Lib.hid hq
    clear hS e0 e1 e2 hm hq HP HN D1 D2 C0 A2 K2 B2
    go_upto_region 7 with fail
    go_cut [8, 9] (fun s8 s9 wx => ∃ (b8 : Nat), s8 = .pointer (some ⟨b8, 0, none⟩) ∧ s9 = .bool q.ok ∧ Hid (RowSt w3 wx b8 q))
    case first =>
      go_region_held3 (fun w' => w'.cell? ⟨w.heap.size, 0, none⟩ = some (.int .u8 v.from_) ∧ w'.cell? ⟨w.heap.size, 1, none⟩ = some (.int .u8 v.cost) ∧ w'.cell? ⟨w.heap.size, 2, none⟩ = some (.slice v.ex.A v.ex.l.length v.ex.cap) ∧ w'.cell? ⟨w.heap.size, 3, none⟩ = some (.slice v.im.A v.im.l.length v.im.cap) ∧ w'.cell? ⟨bu, 0, none⟩ = some (.int .u8 t))
        (first | exact HS.out _ (by repeat (with_reducible first | exact BD.out | exact B9.out | exact B8.out | exact Below.refl _ _ | refine gb_alloc ?_ _ | refine Below.drew ?_ | refine Below.setCell ?_ (by first | exact LO.out | simp) _)))
        (first
          | (go_at_call 9; refine (wireIn_any v _ ((V.out.below B3.out).below (by repeat (with_reducible first | exact BD.out | exact Below.refl _ _ | refine gb_alloc ?_ _ | refine Below.drew ?_)))).mono ?_; rintro en w8 ⟨g, rfl, hf, -, hfc, hfe, hfi, -, hb8⟩; unfold edv; have B8 := Lib.hid (gb_trans (show Below w3.heap.size w3 _ by repeat (with_reducible first | exact BD.out | exact Below.refl _ _ | refine gb_alloc ?_ _ | refine Below.drew ?_)) hb8); have HG8 := Lib.hid hf; have HGF : Hid (edRow g m = q) := Lib.hid ((edT_congr (by rw [hfc, HF.out.1]) (by rw [hfe, HF.out.2.1]) (by rw [hfi, HF.out.2.2]) m).trans HQ.out.symm); (first | (have T8 : Hid (w8.heap[w3.heap.size]? = some (.cells #[.bool false, .int .i64 0, .int .i64 0, .int .u8 0] 41)) := Lib.hid (gb_blk hb8 (gb_new w3.drew (.cells #[.bool false, .int .i64 0, .int .i64 0, .int .u8 0] 41)) (by simp <;> omega))) | skip); clear hb8 hf hfc hfe hfi)
          | (go_at_call 12; refine (row_q HGF.out (by have := M16.out; omega) _ (HG8.out.below (by repeat (with_reducible first | exact Below.refl _ _ | refine gb_alloc ?_ _)))).mono ?_; rintro en w9 ⟨rfl, hb9⟩; have B9 := Lib.hid (gb_trans (show Below w3.heap.size w3 _ by repeat (with_reducible first | exact B8.out | refine gb_alloc ?_ _)) hb9); have z8 := B8.out.size; have z9 := B9.out.size; (first | (have T9 := Lib.hid (gb_blk hb9 T8.out (gb_lt T8.out)); have LO : Hid (w3.heap.size ≤ w3.heap.size) := Lib.hid (Nat.le_refl _)) | (have T9 := Lib.hid (gb_blk hb9 (gb_new w8 (.cells #[.bool false, .int .i64 0, .int .i64 0, .int .u8 0] 41)) (by simp)); have LO : Hid (w3.heap.size ≤ w8.heap.size) := Lib.hid z8) | (have LO : Hid (w3.heap.size ≤ w9.heap.size) := Lib.hid z9)); (try (obtain ⟨z0, z1, z2, z3⟩ := gb_cells4 T9.out; have g0 := gb_free T9.out 0; have g1 := gb_free T9.out 1; have g2 := gb_free T9.out 2; have g3 := gb_free T9.out 3)); clear hb9))
      all_goals (go_wp2_with fail; go_meet)
      all_goals (
        first
          | (refine ⟨_, rfl, rfl, Lib.hid ?_⟩; with_reducible exact rowSt_old B9.out T9.out LO.out)
          | (refine ⟨_, rfl, rfl, Lib.hid ?_⟩; exact ⟨gb_alloc B9.out _, LO.out, gb_new w9 _⟩))
    case rest =>
      obtain ⟨b8, rfl, rfl, HR⟩ := hcut
      have A4 := Lib.hid (P.out.ar.below HR.out.below)
      have F0 := Lib.hid (gb_blk HR.out.below E0.out (gb_lt E0.out))
      have F2 := Lib.hid (gb_blk HR.out.below E2.out (gb_lt E2.out))
      have FP := Lib.hid (gb_blk HR.out.below P.out.pol (gb_lt P.out.pol))
      have F8 := Lib.hid HR.out.blk
      have K4 := Lib.hid (K3.out.trans (Keep.below HR.out.below))
      have HT : Hid (∀ k, edT f k m = bitN q k) := Lib.hid fun k => by rw [HQ.out]; rfl
      clear HS BD HR E0 E2 K3 B3
      go_upto_region 9 with fail
      go_wp2_with fail
      have c0 := btIs_any A4.out (edT f) L PK.out t ht F0.out FP.out F2.out 0 (by omega)
      rw [← HM.out, HT.out 0] at c0
      refine c0.mono ?_
      clear c0
      rintro en w5 ⟨rfl, hb⟩
      have B5 := Lib.hid hb
      clear hb
      have hb0 : bitN q 0 = q.ok := by simp [bitN]
      rw [hb0]
      clear hb0
      have A5 := Lib.hid (A4.out.below B5.out)
      have G0 := Lib.hid (gb_blk B5.out F0.out (gb_lt F0.out))
      have G2 := Lib.hid (gb_blk B5.out F2.out (gb_lt F2.out))
      have GP := Lib.hid (gb_blk B5.out FP.out (gb_lt FP.out))
      have G8 := Lib.hid (gb_blk B5.out F8.out (gb_lt F8.out))
      have K5 := Lib.hid (K4.out.trans (Keep.below B5.out))
      clear A4 F0 F2 FP F8 K4 B5
      go_wp2_with fail
      go_loopw [11] (fun j wr => ∃ k : Nat, j = .int .i64 k ∧ 1 ≤ k ∧ k ≤ 24 ∧ Below w5.heap.size w5 wr) (fun j _ => 24 - (intOf j).toNat)
      case atStart => exact ⟨1, rfl, by omega, by omega, Below.refl _ _⟩
      case round =>
        obtain ⟨k, rfl, h1, hk, hb⟩ := hrel
        have BQ := Lib.hid hb
        by_cases hlt : k < 24
        · have c1 := fun W (hb2 : Below wr.heap.size wr W) => btIs_any (A5.out.below (gb_trans BQ.out hb2)) (edT f) L PK.out t ht (gb_blk (gb_trans BQ.out hb2) G0.out (gb_lt G0.out)) (gb_blk (gb_trans BQ.out hb2) GP.out (gb_lt GP.out)) (gb_blk (gb_trans BQ.out hb2) G2.out (gb_lt G2.out)) k hlt
          rw [← HM.out, HT.out k] at c1
          have CQ := Lib.hid c1
          have x8 := gb_blk BQ.out G8.out (gb_lt G8.out)
          obtain ⟨p0, p1, p2, p3⟩ := in_cells4 x8
          clear c1 hb x8
          have HR := Lib.hid (HQ.out ▸ edRow_row f m : q.Row)
          cases hok : q.ok with
          | false =>
            have hbit : bitN q k = false := by simp [bitN, hok] <;> omega
            rw [hbit] at CQ
            clear hbit hok p0 p1 p2 p3
            go_wp2_with fail
            refine (CQ.out wr (Below.refl _ _)).mono ?_
            rintro en w6 ⟨rfl, hb⟩
            have BF := Lib.hid (gb_trans BQ.out hb)
            clear hb
            go_wp2_with fail
            go_roundw
            case rel => exact ⟨k + 1, by go_num, by omega, by omega, BF.out⟩
            case measure => simp [intOf] <;> omega
          | true =>
            by_cases h5 : k < 5
            · go_upto_region 18 with fail
              refine wp_region_in (Below wr.heap.size wr) (by kernel_rfl) (by kernel_rfl) (Below.refl _ _).drew ?_
              repeat (go_big_quiet_step (fail))
              refine wpQuiet_nil ?_
              rintro w9 ⟨⟨_, hb⟩, rfl⟩
              have B9 := Lib.hid hb
              clear p0 p1 p2 p3 hb
              rw [bit_tags q HR.out hok h1 h5]
              generalize bitN q k = bv at *
              go_wp2_with fail
              refine (CQ.out w9 B9.out).mono ?_
              rintro en w6 ⟨rfl, hb⟩
              have BF := Lib.hid (gb_trans (gb_trans BQ.out B9.out) hb)
              clear hb
              cases bv
              all_goals
                go_wp2_with fail
                go_roundw
                case rel => exact ⟨k + 1, by go_num, by omega, by omega, BF.out⟩
                case measure => simp [intOf] <;> omega
            · by_cases h13 : k < 13
              · go_upto_region 20 with fail
                refine wp_region_in (Below wr.heap.size wr) (by kernel_rfl) (by kernel_rfl) (Below.refl _ _).drew ?_
                repeat (go_big_quiet_step (fail))
                refine wpQuiet_nil ?_
                rintro w9 ⟨⟨_, hb⟩, rfl⟩
                have B9 := Lib.hid hb
                clear p0 p1 p2 p3 hb
                rw [bit_pref q HR.out hok h5 h13]
                generalize bitN q k = bv at *
                go_wp2_with fail
                refine (CQ.out w9 B9.out).mono ?_
                rintro en w6 ⟨rfl, hb⟩
                have BF := Lib.hid (gb_trans (gb_trans BQ.out B9.out) hb)
                clear hb
                cases bv
                all_goals
                  go_wp2_with fail
                  go_roundw
                  case rel => exact ⟨k + 1, by go_num, by omega, by omega, BF.out⟩
                  case measure => simp [intOf] <;> omega
              · go_upto_region 15 with fail
                refine wp_region_in (Below wr.heap.size wr) (by kernel_rfl) (by kernel_rfl) (Below.refl _ _).drew ?_
                repeat (go_big_quiet_step (fail))
                refine wpQuiet_nil ?_
                rintro w9 ⟨⟨_, hb⟩, rfl⟩
                have B9 := Lib.hid hb
                clear p0 p1 p2 p3 hb
                rw [bit_cost q HR.out hok h13 hlt]
                generalize bitN q k = bv at *
                go_wp2_with fail
                refine (CQ.out w9 B9.out).mono ?_
                rintro en w6 ⟨rfl, hb⟩
                have BF := Lib.hid (gb_trans (gb_trans BQ.out B9.out) hb)
                clear hb
                cases bv
                all_goals
                  go_wp2_with fail
                  go_roundw
                  case rel => exact ⟨k + 1, by go_num, by omega, by omega, BF.out⟩
                  case measure => simp [intOf] <;> omega
        · have hk' : k = 24 := by omega
          subst hk'
          go_wp2_with fail
          go_ret
          exact ⟨rfl, gb_trans B0.out (below_of_keep (K5.out.trans (Keep.below BQ.out)))⟩
end Go.Proofs.Ytimlfmklbfgliaa
