import Derived.Test.YtimlfmklbfgliaaEi
set_option linter.unusedVariables false
namespace Go.Proofs.Ytimlfmklbfgliaa
open Go.RowKit Mq

theorem gb_new' {w : World} {n : Nat} {o : Obj} (h : w.heap.size = n) : (w.alloc o).heap[n]? = some o := by subst h; exact gb_new w o
theorem gb_set4 {w : World} {b : Nat} {x0 x1 x2 x3 y0 y1 y2 y3 : Value} {t : TypeId} (h : w.heap[b]? = some (.cells #[x0, x1, x2, x3] t (0, 0))) : ((((w.setCell ⟨b, 0, none⟩ y0).setCell ⟨b, 1, none⟩ y1).setCell ⟨b, 2, none⟩ y2).setCell ⟨b, 3, none⟩ y3).heap[b]? = some (.cells #[y0, y1, y2, y3] t (0, 0)) := by
  simpa using gb_set (gb_set (gb_set (gb_set h 0 y0) 1 y1) 2 y2) 3 y3
theorem gb_setZ {w : World} {b : Nat} {y0 y1 y2 y3 : Value} (h : w.heap[b]? = some (.cells #[.int .i64 0, .int .i64 0, .slice none 0 0, .slice none 0 0] 30)) : ((((w.setCell ⟨b, 0, none⟩ y0).setCell ⟨b, 1, none⟩ y1).setCell ⟨b, 2, none⟩ y2).setCell ⟨b, 3, none⟩ y3).heap[b]? = some (.cells #[y0, y1, y2, y3] 30 (0, 0)) := gb_set4 h
theorem ed_of {wx w : World} {B c8 c9 : Nat} {f c : Int} {A8 A9 : Option Addr} {l l' : List Cl} (h1 : is64 f) (h2 : is64 c) (hl : ∀ c ∈ l, c.Ok) (hl5 : l.length ≤ 5) (hm : ∀ c ∈ l', c.Ok) (hm5 : l'.length ≤ 5)
    (o8 : OwnsCls w B (.slice A8 l.length c8) l) (o9 : OwnsCls w B (.slice A9 l'.length c9) l') (hk : ∀ k, k < w.heap.size → B ≤ k → wx.heap[k]? = w.heap[k]?) : EdOk wx ⟨f, c, ⟨A8, c8, l⟩, ⟨A9, c9, l'⟩⟩ :=
  have q8 : OwnsCls wx B (.slice A8 l.length c8) l := ow_move o8 fun k h h' _ => hk k h h'
  have q9 : OwnsCls wx B (.slice A9 l'.length c9) l' := ow_move o9 fun k h h' _ => hk k h h'
  ⟨h1, h2, ForPost.sl hl hl5 q8, ForPost.sl hm hm5 q9⟩
theorem ed_of2 {wx w : World} {n B c8 c9 : Nat} {f c : Int} {A8 A9 : Option Addr} {l l' : List Cl} (hn : n ≤ B) (h1 : is64 f) (h2 : is64 c) (hl : ∀ c ∈ l, c.Ok) (hl5 : l.length ≤ 5) (hm : ∀ c ∈ l', c.Ok) (hm5 : l'.length ≤ 5)
    (o8 : OwnsCls w B (.slice A8 l.length c8) l) (o9 : OwnsCls w B (.slice A9 l'.length c9) l') (hk : ∀ k, k < w.heap.size → B ≤ k → wx.heap[k]? = w.heap[k]?) : EdOk wx ⟨f, c, ⟨A8, c8, l⟩, ⟨A9, c9, l'⟩⟩ ∧ EdIn (fun q => n ≤ q ∧ q < wx.heap.size) ⟨f, c, ⟨A8, c8, l⟩, ⟨A9, c9, l'⟩⟩ :=
  have h := ed_of (wx := wx) h1 h2 hl hl5 hm hm5 o8 o9 hk
  ⟨h, ⟨fun b o e hl => ⟨Nat.le_trans hn (own_low o8 b o e hl), h.ex.low b o e hl⟩, fun b o e hl => ⟨Nat.le_trans hn (own_low o9 b o e hl), h.im.low b o e hl⟩⟩⟩
theorem SlOk.ne {w : World} {s : SlV Cl} {g : Nat} {x0 x1 x2 x3 : Value} {t : TypeId} (h : SlOk clc 10 (fun _ c => c.Ok) w s) (hb : w.heap[g]? = some (.cells #[x0, x1, x2, x3] t (0, 0))) : ∀ b off, s.A = some ⟨b, off, none⟩ → 0 < s.l.length → b ≠ g := by
  rintro b off e hl rfl
  obtain ⟨b', off', e', hlt, hc⟩ := h.at_ hl
  rw [e] at e'
  injection e' with e'
  injection e' with e1 e2
  subst e1; subst e2
  have := hc 0 _ (List.getElem?_eq_getElem hl) 9 (by omega)
  rw [gb_cell hb] at this
  simp [clc] at this
theorem EdOk.ne {w : World} {x : EdV} {g : Nat} {x0 x1 x2 x3 : Value} {t : TypeId} (h : EdOk w x) (hb : w.heap[g]? = some (.cells #[x0, x1, x2, x3] t (0, 0))) : EdIn (fun q => q ≠ g) x := ⟨h.ex.ne hb, h.im.ne hb⟩
theorem anyB_false (g : Nat → Bool) : ∀ n, anyB g n = false ↔ ∀ k, k < n → g k = false := by
  intro n
  induction n with
  | zero => simp [anyB]
  | succ n ih =>
    rw [anyB, Bool.or_eq_false_iff, ih]
    constructor
    · rintro ⟨h1, h2⟩ k hk
      by_cases he : k = n
      · subst he; exact h2
      · exact h1 k (by omega)
    · intro h; exact ⟨fun k hk => h k (by omega), h n (by omega)⟩
theorem sameB_iff (e f : EdV) : sameB e f = true ↔ ∀ t, t < 16 → edRow e t = edRow f t := by
  unfold sameB
  rw [Bool.not_eq_true', anyB_false]
  simp [sameAt]
theorem same_pol {ns : List Nd} {e f : EdV} {L M : List Nat} (W : WF ns) (h : PolOk ns (edT e) L) (h' : PolOk ns (edT f) M) : decide (L = M) = sameB e f := by
  rw [Bool.eq_iff_iff, decide_eq_true_iff, h.same W h', edT_same, sameB_iff]
/-- Two edges in boxes of their own. -/
structure Two (w1 wx : World) (b5 b6 : Nat) (E F : EdV) : Prop where
  ne : ¬ b5 = b6
  lo5 : w1.heap.size ≤ b5
  lo6 : w1.heap.size ≤ b6
  below : Below w1.heap.size w1 wx
  h5 : wx.heap[b5]? = some (.cells #[.int .i64 E.from_, .int .i64 E.cost, .slice E.ex.A E.ex.l.length E.ex.cap, .slice E.im.A E.im.l.length E.im.cap] 30)
  h6 : wx.heap[b6]? = some (.cells #[.int .i64 F.from_, .int .i64 F.cost, .slice F.ex.A F.ex.l.length F.ex.cap, .slice F.im.A F.im.l.length F.im.cap] 30)
  ok5 : EdOk wx E ∧ EdIn (fun q => w1.heap.size ≤ q ∧ q < wx.heap.size) E
  ok6 : EdOk wx F ∧ EdIn (fun q => w1.heap.size ≤ q ∧ q < wx.heap.size) F
set_option maxRecDepth 100000 in
set_option maxHeartbeats 8000000 in
theorem walk_CompileSame (v u : WiV) (fr : Nat) (w : World) (hv : WiOk w v) (hu : WiOk w u) (hfr : fr < 256) :
    Calls Try.prog 3 #[.agg (wic v).toArray, .agg (wic u).toArray, .int .u8 fr] w fun e w' => e = .returned (.bool true) ∧ Below w.heap.size w w' := by
  have V := Lib.hid hv; have U := Lib.hid hu
  clear hv hu
  unfold wic slv
  go_enter Try.func3, Try.ntmps3
  go_wp2_with fail
  have b2 := gb_old _ (.cells #[.int .u8 u.from_, .int .u8 u.cost, .slice u.ex.A u.ex.l.length u.ex.cap, .slice u.im.A u.im.l.length u.im.cap] 24) (gb_new w (.cells #[.int .u8 v.from_, .int .u8 v.cost, .slice v.ex.A v.ex.l.length v.ex.cap, .slice v.im.A v.im.l.length v.im.cap] 24))
  have b3 := gb_new (w.alloc (.cells #[.int .u8 v.from_, .int .u8 v.cost, .slice v.ex.A v.ex.l.length v.ex.cap, .slice v.im.A v.im.l.length v.im.cap] 24)) (.cells #[.int .u8 u.from_, .int .u8 u.cost, .slice u.ex.A u.ex.l.length u.ex.cap, .slice u.im.A u.im.l.length u.im.cap] 24)
  have hB := gb_alloc (gb_alloc (Below.refl w.heap.size w) (.cells #[.int .u8 v.from_, .int .u8 v.cost, .slice v.ex.A v.ex.l.length v.ex.cap, .slice v.im.A v.im.l.length v.im.cap] 24)) (.cells #[.int .u8 u.from_, .int .u8 u.cost, .slice u.ex.A u.ex.l.length u.ex.cap, .slice u.im.A u.im.l.length u.im.cap] 24)
  simp only [World.size_alloc] at b3
  generalize (w.alloc (.cells #[.int .u8 v.from_, .int .u8 v.cost, .slice v.ex.A v.ex.l.length v.ex.cap, .slice v.im.A v.im.l.length v.im.cap] 24)).alloc (.cells #[.int .u8 u.from_, .int .u8 u.cost, .slice u.ex.A u.ex.l.length u.ex.cap, .slice u.im.A u.im.l.length u.im.cap] 24) = W0 at *
  refine (awake14 W0).mono ?_
  rintro en w0 ⟨rfl, hb⟩
  have c2 := gb_blk hb b2 (gb_lt b2)
  have c3 := gb_blk hb b3 (gb_lt b3)
  have B0 := Lib.hid (gb_trans hB hb)
  have C2 := Lib.hid c2; have C3 := Lib.hid c3
  clear b2 b3 c2 c3 hB hb
  go_wp2_with fail
  refine (of_any w0 4096 4096 (by decide)).mono ?_
  rintro en w1 ⟨a, rfl, hA, hk, hle⟩
  have A1 := Lib.hid hA; have K1 := Lib.hid hk
  have c2 := (hk.block _ (gb_lt C2.out) (gb_lt C2.out)).trans C2.out
  have c3 := (hk.block _ (gb_lt C3.out) (gb_lt C3.out)).trans C3.out
  have B1 := Lib.hid (gb_trans B0.out (below_of_keep hk))
  clear hA hk hle C2 C3
  have hS : ∀ w', Below w1.heap.size w1 w' → w'.cell? ⟨w.heap.size, 0, none⟩ = some (.int .u8 v.from_) ∧ w'.cell? ⟨w.heap.size, 1, none⟩ = some (.int .u8 v.cost) ∧ w'.cell? ⟨w.heap.size, 2, none⟩ = some (.slice v.ex.A v.ex.l.length v.ex.cap) ∧ w'.cell? ⟨w.heap.size, 3, none⟩ = some (.slice v.im.A v.im.l.length v.im.cap) ∧ w'.cell? ⟨w.heap.size + 1, 0, none⟩ = some (.int .u8 u.from_) ∧ w'.cell? ⟨w.heap.size + 1, 1, none⟩ = some (.int .u8 u.cost) ∧ w'.cell? ⟨w.heap.size + 1, 2, none⟩ = some (.slice u.ex.A u.ex.l.length u.ex.cap) ∧ w'.cell? ⟨w.heap.size + 1, 3, none⟩ = some (.slice u.im.A u.im.l.length u.im.cap) := fun w' hb => by
    have h := gb_blk hb c2 (gb_lt c2)
    have h' := gb_blk hb c3 (gb_lt c3)
    exact ⟨gb_cell h 0, gb_cell h 1, gb_cell h 2, gb_cell h 3, gb_cell h' 0, gb_cell h' 1, gb_cell h' 2, gb_cell h' 3⟩
  have HS := Lib.hid hS
  have BD := Lib.hid ((Below.refl w1.heap.size w1).drew)
  have l2 := gb_lt c2
  have l3 := gb_lt c3
  clear hS c2 c3
  go_upto_region 4 with fail
  generalize w.heap.size + 1 = bu at *
  have m1 : w.heap.size < w1.heap.size + 1 := by omega
  have m2 : bu < w1.heap.size + 1 := by omega
  go_cut [8, 9] (fun s5 s6 wx => ∃ (b5 b6 : Nat) (E F : EdV), s5 = .pointer (some ⟨b5, 0, none⟩) ∧ s6 = .pointer (some ⟨b6, 0, none⟩) ∧ Hid (Two w1 wx b5 b6 E F))
  case first =>
    obtain ⟨x0, x1, x2, x3, y0, y1, y2, y3⟩ := HS.out _ BD.out
    obtain ⟨p0, p1, p2, p3, q0, q1, q2, q3⟩ := HS.out _ (Below.refl w1.heap.size w1)
    go_region_held3 (fun w' => w'.cell? ⟨w.heap.size, 0, none⟩ = some (.int .u8 v.from_) ∧ w'.cell? ⟨w.heap.size, 1, none⟩ = some (.int .u8 v.cost) ∧ w'.cell? ⟨w.heap.size, 2, none⟩ = some (.slice v.ex.A v.ex.l.length v.ex.cap) ∧ w'.cell? ⟨w.heap.size, 3, none⟩ = some (.slice v.im.A v.im.l.length v.im.cap) ∧ w'.cell? ⟨bu, 0, none⟩ = some (.int .u8 u.from_) ∧ w'.cell? ⟨bu, 1, none⟩ = some (.int .u8 u.cost) ∧ w'.cell? ⟨bu, 2, none⟩ = some (.slice u.ex.A u.ex.l.length u.ex.cap) ∧ w'.cell? ⟨bu, 3, none⟩ = some (.slice u.im.A u.im.l.length u.im.cap))
      (first | exact HS.out _ (by repeat (with_reducible first | exact BD.out | exact B8.out | exact B9.out | exact Below.refl _ _ | refine gb_alloc ?_ _ | refine Below.drew ?_ | refine Below.setCell ?_ (by simp <;> omega) _)))
      (first | (go_at_call_of 9 v.ex.A; refine (wire2_any v _ (V.out.below (gb_trans B1.out (by repeat (with_reducible first | exact BD.out | exact Below.refl _ _ | refine gb_alloc ?_ _ | refine Below.drew ?_))))).mono ?_; rintro en w8 ⟨A8, c8, A9, c9, rfl, o8, o9, hb8⟩; unfold edv; have B8 := Lib.hid (gb_trans (show Below w1.heap.size w1 _ by repeat (with_reducible first | exact BD.out | exact Below.refl _ _ | refine gb_alloc ?_ _ | refine Below.drew ?_)) hb8); obtain ⟨x0, x1, x2, x3, y0, y1, y2, y3⟩ := HS.out _ B8.out; (first | (have T6 := Lib.hid (gb_blk hb8 (gb_new (w1.alloc (.cells #[.int .i64 0, .int .i64 0, .slice none 0 0, .slice none 0 0] 30)) (.cells #[.int .i64 0, .int .i64 0, .slice none 0 0, .slice none 0 0] 30)) (by simp <;> omega)); have T5 := Lib.hid (gb_blk hb8 (gb_old _ (.cells #[.int .i64 0, .int .i64 0, .slice none 0 0, .slice none 0 0] 30) (gb_new w1 (.cells #[.int .i64 0, .int .i64 0, .slice none 0 0, .slice none 0 0] 30))) (by simp <;> omega)); simp only [World.size_alloc] at T6) | (have T5 := Lib.hid (gb_blk hb8 (gb_new w1 (.cells #[.int .i64 0, .int .i64 0, .slice none 0 0, .slice none 0 0] 30)) (by simp <;> omega))) | skip); have z8 := B8.out.size; have l22 : w.heap.size < w8.heap.size := (by omega); have l32 : bu < w8.heap.size := (by omega); have m3 : bu < w8.heap.size + 1 := (by omega); have O8 := Lib.hid o8; have O9 := Lib.hid o9; have HB8 := Lib.hid hb8; clear o8 o9 hb8) | (go_at_call_of 9 u.ex.A; refine (wire2_any u _ (U.out.below (gb_trans B1.out (by repeat (with_reducible first | exact B8.out | refine gb_alloc ?_ _))))).mono ?_; rintro en w9 ⟨A10, c10, A11, c11, rfl, o10, o11, hb9⟩; unfold edv; have B9 := Lib.hid (gb_trans (show Below w1.heap.size w1 _ by repeat (with_reducible first | exact B8.out | refine gb_alloc ?_ _)) hb9); have z8 := B8.out.size; have z9 := hb9.size; (try simp only [World.size_alloc, World.size_drew] at z9); (first | (have f6 := gb_blk hb9 T6.out (gb_lt T6.out); have f5 := gb_blk hb9 T5.out (gb_lt T5.out); have l5 := gb_lt T5.out; have l6 := gb_lt T6.out) | (have f6 := gb_blk hb9 (gb_new w8 (.cells #[.int .i64 0, .int .i64 0, .slice none 0 0, .slice none 0 0] 30)) (by simp <;> omega); have f5 := gb_blk hb9 (gb_old _ (.cells #[.int .i64 0, .int .i64 0, .slice none 0 0, .slice none 0 0] 30) T5.out) (by have := gb_lt T5.out; simp; omega); have l5 := gb_lt T5.out) | (have f5 := gb_blk hb9 T5.out (gb_lt T5.out); have l5 := gb_lt T5.out) | (have f6 := gb_blk hb9 (gb_new (w8.alloc (.cells #[.int .i64 0, .int .i64 0, .slice none 0 0, .slice none 0 0] 30)) (.cells #[.int .i64 0, .int .i64 0, .slice none 0 0, .slice none 0 0] 30)) (by simp <;> omega); have f5 := gb_blk hb9 (gb_old _ (.cells #[.int .i64 0, .int .i64 0, .slice none 0 0, .slice none 0 0] 30) (gb_new w8 (.cells #[.int .i64 0, .int .i64 0, .slice none 0 0, .slice none 0 0] 30))) (by simp <;> omega); simp only [World.size_alloc] at f6) | (have f5 := gb_blk hb9 (gb_new w8 (.cells #[.int .i64 0, .int .i64 0, .slice none 0 0, .slice none 0 0] 30)) (by simp <;> omega)) | skip); (try (obtain ⟨x0, x1, x2, x3⟩ := gb_cells4 f5; have g0 := gb_free f5 0; have g1 := gb_free f5 1; have g2 := gb_free f5 2; have g3 := gb_free f5 3; have s5 := gb_lt f5)); (try (obtain ⟨y0, y1, y2, y3⟩ := gb_cells4 f6; have h0 := gb_free f6 0; have h1 := gb_free f6 1; have h2 := gb_free f6 2; have h3 := gb_free f6 3; have s6 := gb_lt f6)); (try (have F5 := Lib.hid f5; clear f5)); (try (have F6 := Lib.hid f6; clear f6)); (try (have n1 : ¬ w1.heap.size = w8.heap.size := (by omega); have n2 : ¬ w8.heap.size = w1.heap.size := (by omega))); have O10 := Lib.hid o10; have O11 := Lib.hid o11; have HB9 := Lib.hid hb9; clear o10 o11 hb9))
    all_goals (go_wp2_with fail; go_meet)
    all_goals (have is1 := V.out.from_; have is2 := V.out.cost; have is3 := U.out.from_; have is4 := U.out.cost)
    all_goals (
      refine ⟨_, _, ⟨(v.from_ : Int), 1 + (v.cost : Int) % 3, ⟨A8, c8, plainL v.ex.l⟩, ⟨A9, c9, plainL v.im.l⟩⟩, ⟨(u.from_ : Int), 1 + (u.cost : Int) % 3, ⟨A10, c10, plainL u.ex.l⟩, ⟨A11, c11, plainL u.im.l⟩⟩, rfl, rfl, Lib.hid ⟨?_, ?_, ?_, ?_, ?_, ?_, ?_, ?_⟩⟩
      · omega
      · omega
      · omega
      · repeat (first | (with_reducible exact B9.out) | (with_reducible refine gb_alloc ?_ _) | (with_reducible refine Below.setCell ?_ (by first | omega | (simp <;> omega)) _))
      · repeat (first | (with_reducible exact F5.out) | (with_reducible exact F6.out) | (with_reducible exact gb_new' (by simp)) | (with_reducible refine gb_setZ ?_) | (with_reducible refine gb_old _ _ ?_) | (with_reducible refine gb_far ?_ (by first | omega | (simp <;> omega)) _))
      · repeat (first | (with_reducible exact F5.out) | (with_reducible exact F6.out) | (with_reducible exact gb_new' (by simp)) | (with_reducible refine gb_setZ ?_) | (with_reducible refine gb_old _ _ ?_) | (with_reducible refine gb_far ?_ (by first | omega | (simp <;> omega)) _))
      · refine ed_of2 (n := w1.heap.size) (by first | omega | (simp <;> omega)) (by simp only [is64]; omega) (by simp only [is64]; omega) (plainL_ok V.out.ex.ok) (plainL_len _) (plainL_ok V.out.im.ok) (plainL_len _) O8.out O9.out (fun k hk hB => ?_)
        (try simp only [World.size_alloc, World.size_drew] at hB)
        refine Eq.trans (b := w9.heap[k]?) ?_ ((HB9.out.block k (by first | omega | (simp <;> omega))).trans ?_)
        · repeat (first | (with_reducible rfl) | (with_reducible refine (Below.heap_alloc _ _ _ (by first | omega | (simp <;> omega))).trans ?_) | (with_reducible refine (Below.heap_setCell _ _ _ _ (by first | omega | (simp <;> omega))).trans ?_))
        · repeat (first | (with_reducible rfl) | (with_reducible refine (Below.heap_alloc _ _ _ (by first | omega | (simp <;> omega))).trans ?_) | (with_reducible refine (Below.heap_setCell _ _ _ _ (by first | omega | (simp <;> omega))).trans ?_))
      · refine ed_of2 (n := w1.heap.size) (by first | omega | (simp <;> omega)) (by simp only [is64]; omega) (by simp only [is64]; omega) (plainL_ok U.out.ex.ok) (plainL_len _) (plainL_ok U.out.im.ok) (plainL_len _) O10.out O11.out (fun k hk hB => ?_)
        (try simp only [World.size_alloc, World.size_drew] at hB)
        repeat (first | (with_reducible rfl) | (with_reducible refine (Below.heap_alloc _ _ _ (by first | omega | (simp <;> omega))).trans ?_) | (with_reducible refine (Below.heap_setCell _ _ _ _ (by first | omega | (simp <;> omega))).trans ?_)))
  case rest =>
    obtain ⟨b5, b6, e, f, rfl, rfl, HT⟩ := hcut
    clear HS BD l2 l3 m1 m2
    obtain ⟨X, hXd⟩ : ∃ X : Nat → Prop, ∀ q, X q ↔ (q < w0.heap.size ∨ w1.heap.size ≤ q ∧ q < wc.heap.size) := ⟨fun q => _, fun _ => Iff.rfl⟩
    have A2 := Lib.hid ((A1.out.below_more HT.out.below).mono fun q hq => (hXd q).1 hq)
    have XE := Lib.hid (HT.out.ok5.2.mono fun q hq => (hXd q).2 (.inr hq))
    have XF := Lib.hid (HT.out.ok6.2.mono fun q hq => (hXd q).2 (.inr hq))
    have X5 : Hid (X b5) := Lib.hid ((hXd _).2 (.inr ⟨HT.out.lo5, gb_lt HT.out.h5⟩))
    have X6 : Hid (X b6) := Lib.hid ((hXd _).2 (.inr ⟨HT.out.lo6, gb_lt HT.out.h6⟩))
    have KX : Hid (∀ q, q < w0.heap.size → X q) := Lib.hid fun q hq => (hXd q).2 (.inl hq)
    have K2 : Hid (Keep (fun q => q < w0.heap.size) w0 wc) := Lib.hid (K1.out.trans (Keep.below HT.out.below))
    have H5 := Lib.hid HT.out.h5; have H6 := Lib.hid HT.out.h6; have OE := Lib.hid HT.out.ok5.1; have OF := Lib.hid HT.out.ok6.1; have NE := Lib.hid HT.out.ne
    have L05 : Hid (w0.heap.size ≤ b5) := Lib.hid (Nat.le_trans K1.out.size HT.out.lo5)
    clear hXd HT K1 A1 V U
    obtain ⟨z0, z1, z2, z3⟩ := gb_cells4 H5.out
    go_wp2_with fail
    refine (compAll_any A2.out (by decide) e OE.out).mono ?_
    rintro en w2 ⟨ns1, L1, rfl, hA, hk2, hx1, hl1, hL1⟩
    have A3 := Lib.hid hA; have P1 := Lib.hid hL1; have HX1 := Lib.hid hx1; have N1 : Hid (ns1.length ≤ 362) := Lib.hid hl1
    have T5 := Lib.hid ((hk2.block b5 X5.out (gb_lt H5.out)).trans H5.out)
    have T6 := Lib.hid ((hk2.block b6 X6.out (gb_lt H6.out)).trans H6.out)
    have OE2 := Lib.hid (OE.out.keep XE.out hk2)
    have OF2 := Lib.hid (OF.out.keep XF.out hk2)
    have K3 := Lib.hid (K2.out.trans (hk2.mono KX.out))
    clear hA hk2 hx1 hl1 hL1 z0 z1 z2 z3
    go_upto_region 6 with (refine wpList_store_rowTo rfl 33 _ _ rfl rfl w2.heap.size (outC L1) rfl rfl _ _ (gb_new _ _) (by rw [outC_size]; kernel_rfl) (by rw [outC_size]; rfl) (outC_one L1) ?_)
    have hb := setRow_heap _ w2.heap.size _ (outC L1) _ _ (gb_new w2 (.cells (outC []) 33))
    have BB : Hid (Below w2.heap.size w2 ((w2.alloc (.cells (outC []) 33)).setRow w2.heap.size (outC L1))) := Lib.hid (gb_setRow (gb_alloc (Below.refl _ _) _) (Nat.le_refl _) _)
    change Code.wp _ _ _ _ ((w2.alloc (.cells (outC []) 33)).setRow w2.heap.size (outC L1))
    generalize (w2.alloc (.cells (outC []) 33)).setRow w2.heap.size (outC L1) = w3 at *
    have Q1 := Lib.hid hb
    have A4 := Lib.hid (A3.out.below_more BB.out)
    have U5 := Lib.hid (gb_blk BB.out T5.out (gb_lt T5.out))
    have U6 := Lib.hid (gb_blk BB.out T6.out (gb_lt T6.out))
    have OE3 := Lib.hid (OE2.out.below BB.out)
    have OF3 := Lib.hid (OF2.out.below BB.out)
    have K4 := Lib.hid (K3.out.trans (Keep.below BB.out))
    obtain ⟨X3, hXd⟩ : ∃ X3 : Nat → Prop, ∀ q, X3 q ↔ (X q ∨ w2.heap.size ≤ q ∧ q < w3.heap.size) := ⟨fun q => _, fun _ => Iff.rfl⟩
    have A4 := Lib.hid (A4.out.mono fun q hq => (hXd q).1 hq)
    have XX : Hid (∀ q, X q → X3 q) := Lib.hid fun q hq => (hXd q).2 (.inl hq)
    have XQ1 : Hid (X3 w2.heap.size) := Lib.hid ((hXd _).2 (.inr ⟨Nat.le_refl _, gb_lt hb⟩))
    clear hb BB hXd
    obtain ⟨z0, z1, z2, z3⟩ := gb_cells4 U6.out
    go_wp2_with fail
    refine (compAll_any A4.out (by have := N1.out; omega) f OF3.out).mono ?_
    rintro en w4 ⟨ns2, L2, rfl, hA, hk2, hx1, hl1, hL1⟩
    have A5 := Lib.hid hA; have P2 := Lib.hid hL1; have HX2 := Lib.hid hx1; have N2 : Hid (ns2.length ≤ 722) := Lib.hid (by have := N1.out; omega)
    have V5 := Lib.hid ((hk2.block b5 (XX.out _ X5.out) (gb_lt U5.out)).trans U5.out)
    have V6 := Lib.hid ((hk2.block b6 (XX.out _ X6.out) (gb_lt U6.out)).trans U6.out)
    have R1 := Lib.hid ((hk2.block _ XQ1.out (gb_lt Q1.out)).trans Q1.out)
    have OE4 := Lib.hid (OE3.out.keep (XE.out.mono XX.out) hk2)
    have OF4 := Lib.hid (OF3.out.keep (XF.out.mono XX.out) hk2)
    have K5 := Lib.hid (K4.out.trans (hk2.mono fun q hq => XX.out _ (KX.out q hq)))
    clear hA hk2 hx1 hl1 hL1 z0 z1 z2 z3
    go_upto_region 7 with (refine wpList_store_rowTo rfl 33 _ _ rfl rfl w4.heap.size (outC L2) rfl rfl _ _ (gb_new _ _) (by rw [outC_size]; kernel_rfl) (by rw [outC_size]; rfl) (outC_one L2) ?_)
    have hb := setRow_heap _ w4.heap.size _ (outC L2) _ _ (gb_new w4 (.cells (outC []) 33))
    have BB : Hid (Below w4.heap.size w4 ((w4.alloc (.cells (outC []) 33)).setRow w4.heap.size (outC L2))) := Lib.hid (gb_setRow (gb_alloc (Below.refl _ _) _) (Nat.le_refl _) _)
    change Code.wp _ _ _ _ ((w4.alloc (.cells (outC []) 33)).setRow w4.heap.size (outC L2))
    generalize (w4.alloc (.cells (outC []) 33)).setRow w4.heap.size (outC L2) = w5 at *
    have Q2 := Lib.hid hb
    have A6 := Lib.hid (A5.out.below_more BB.out)
    have Y5 := Lib.hid (gb_blk BB.out V5.out (gb_lt V5.out))
    have Y6 := Lib.hid (gb_blk BB.out V6.out (gb_lt V6.out))
    have S1 := Lib.hid (gb_blk BB.out R1.out (gb_lt R1.out))
    have OE5 := Lib.hid (OE4.out.below BB.out)
    have OF5 := Lib.hid (OF4.out.below BB.out)
    have K6 := Lib.hid (K5.out.trans (Keep.below BB.out))
    obtain ⟨X4, hXd⟩ : ∃ X4 : Nat → Prop, ∀ q, X4 q ↔ (X3 q ∨ w4.heap.size ≤ q ∧ q < w5.heap.size) := ⟨fun q => _, fun _ => Iff.rfl⟩
    have A6 := Lib.hid (A6.out.mono fun q hq => (hXd q).1 hq)
    have XX4 : Hid (∀ q, X3 q → X4 q) := Lib.hid fun q hq => (hXd q).2 (.inl hq)
    have XQ2 : Hid (X4 w4.heap.size) := Lib.hid ((hXd _).2 (.inr ⟨Nat.le_refl _, gb_lt hb⟩))
    clear hb BB hXd
    obtain ⟨z0, z1, z2, z3⟩ := gb_cells4 Y5.out
    have g0 := gb_free Y5.out 0
    have hwf : IntKind.i64.wrap (fr : Int) = (fr : Int) := by rw [IntKind.wrap_i64]; omega
    go_upto_region 8 with fail
    have XB5 : Hid (w0.heap.size ≤ b5) := Lib.hid L05.out
    have A7 := Lib.hid (A6.out.setCell (p := ⟨b5, 0, none⟩) (XX4.out _ (XX.out _ X5.out)) (.int .i64 fr))
    have d5 : (w5.setCell ⟨b5, 0, none⟩ (.int .i64 fr)).heap[b5]? = some (.cells #[.int .i64 fr, .int .i64 e.cost, .slice e.ex.A e.ex.l.length e.ex.cap, .slice e.im.A e.im.l.length e.im.cap] 30 (0, 0)) := gb_set Y5.out 0 _
    have KS : Hid (∀ q, q ≠ b5 → (w5.setCell ⟨b5, 0, none⟩ (.int .i64 fr)).heap[q]? = w5.heap[q]?) := Lib.hid fun q hq => Below.heap_setCell _ _ _ _ (by simpa using hq)
    have KE : Hid (Keep (fun q => q ≠ b5) w5 (w5.setCell ⟨b5, 0, none⟩ (.int .i64 fr))) := Lib.hid ⟨rfl, rfl, rfl, by simp, fun q hq _ => KS.out q hq⟩
    have OE7 := Lib.hid (OE5.out.keep (OE5.out.ne Y5.out) KE.out)
    have OF7 := Lib.hid (OF5.out.keep (OF5.out.ne Y5.out) KE.out)
    have D6 := Lib.hid ((KS.out b6 (Ne.symm NE.out)).trans Y6.out)
    have l5 := gb_lt Y5.out
    have q1 : w2.heap.size ≠ b5 := by have := gb_lt U5.out; have := gb_lt T5.out; omega
    have q2 : w4.heap.size ≠ b5 := by have := gb_lt V5.out; omega
    have D1 := Lib.hid ((KS.out _ q1).trans S1.out)
    have D2 := Lib.hid ((KS.out _ q2).trans Q2.out)
    have K7 : Hid (Keep (fun q => q < w0.heap.size) w0 (w5.setCell ⟨b5, 0, none⟩ (.int .i64 fr))) := Lib.hid (K6.out.trans (KE.out.mono fun q hq => by have := XB5.out; omega))
    have D5 := Lib.hid d5
    clear z0 z1 z2 z3 g0 hwf q1 q2 l5 d5 KS KE
    generalize w5.setCell ⟨b5, 0, none⟩ (.int .i64 fr) = w7 at *
    have OG7 : Hid (EdOk w7 ⟨(fr : Int), e.cost, e.ex, e.im⟩) := Lib.hid ⟨by unfold is64; simp only; omega, OE7.out.cost, OE7.out.ex, OE7.out.im⟩
    have XG : Hid (EdIn X4 ⟨(fr : Int), e.cost, e.ex, e.im⟩) := Lib.hid ⟨fun b o e l => XX4.out _ (XX.out _ (XE.out.ex b o e l)), fun b o e l => XX4.out _ (XX.out _ (XE.out.im b o e l))⟩
    obtain ⟨z0, z1, z2, z3⟩ := gb_cells4 D5.out
    go_wp2_with fail
    refine (compAll_any A7.out (by have := N2.out; omega) ⟨(fr : Int), e.cost, e.ex, e.im⟩ OG7.out).mono ?_
    rintro en w8 ⟨ns3, L3, rfl, hA, hk2, hx1, hl1, hL1⟩
    have hL3 : L3 = L1 := by
      have W1 := A3.out.wf; have W2 := A5.out.wf; have W3 := hA.wf
      exact (hL1.same W3 ((P1.out.ext W1 HX2.out).ext W2 hx1)).2 fun _ _ _ _ => rfl
    subst hL3
    have SM := Lib.hid (same_pol hA.wf hL1 (P2.out.ext A5.out.wf hx1))
    have E1 := Lib.hid ((hk2.block _ (XX4.out _ XQ1.out) (gb_lt D1.out)).trans D1.out)
    have E2 := Lib.hid ((hk2.block _ XQ2.out (gb_lt D2.out)).trans D2.out)
    have E5 := Lib.hid ((hk2.block b5 (XX4.out _ (XX.out _ X5.out)) (gb_lt D5.out)).trans D5.out)
    have E6 := Lib.hid ((hk2.block b6 (XX4.out _ (XX.out _ X6.out)) (gb_lt D6.out)).trans D6.out)
    have OG8 := Lib.hid (OG7.out.keep XG.out hk2)
    have OF8 := Lib.hid (OF7.out.keep (XF.out.mono fun q hq => XX4.out _ (XX.out _ hq)) hk2)
    have K8 := Lib.hid (K7.out.trans (hk2.mono fun q hq => XX4.out _ (XX.out _ (KX.out q hq))))
    have LL1 : L3.length = 24 := hL1.len
    have LL2 : L2.length = 24 := P2.out.len
    clear hA hk2 hx1 hl1 hL1 z0 z1 z2 z3 P1 P2 HX1 HX2
    go_upto_region 9 with (refine wpList_store_rowTo rfl 33 _ _ rfl rfl w8.heap.size (outC L3) rfl rfl _ _ (gb_new _ _) (by rw [outC_size]; kernel_rfl) (by rw [outC_size]; rfl) (outC_one L3) ?_)
    have hb := setRow_heap _ w8.heap.size _ (outC L3) _ _ (gb_new w8 (.cells (outC []) 33))
    have BB : Hid (Below w8.heap.size w8 ((w8.alloc (.cells (outC []) 33)).setRow w8.heap.size (outC L3))) := Lib.hid (gb_setRow (gb_alloc (Below.refl _ _) _) (Nat.le_refl _) _)
    change Code.wp _ _ _ _ ((w8.alloc (.cells (outC []) 33)).setRow w8.heap.size (outC L3))
    generalize (w8.alloc (.cells (outC []) 33)).setRow w8.heap.size (outC L3) = w9 at *
    have F3 := Lib.hid hb
    have F1 := Lib.hid (gb_blk BB.out E1.out (gb_lt E1.out))
    have F2 := Lib.hid (gb_blk BB.out E2.out (gb_lt E2.out))
    have f5 := gb_blk BB.out E5.out (gb_lt E5.out)
    have f6 := gb_blk BB.out E6.out (gb_lt E6.out)
    have OG9 := Lib.hid (OG8.out.below BB.out)
    have OF9 := Lib.hid (OF8.out.below BB.out)
    have K9 := Lib.hid (K8.out.trans (Keep.below BB.out))
    obtain ⟨p5, q5, r5, s5⟩ := in_cells4 f5
    obtain ⟨p6, q6, r6, s6⟩ := in_cells4 f6
    have m1 := SM.out
    obtain ⟨sb, hsb⟩ : ∃ b, b = sameB ⟨(fr : Int), e.cost, e.ex, e.im⟩ f := ⟨_, rfl⟩
    have e12 : ∀ (w : World) (d : Nat), (Op.equalIn (d + 2) 33 (.agg (outC L3)) (.agg (outC L2))).run Try.prog w = .ok sb w := fun w d => by
      rw [eq_policy w d L3 L2 LL1 LL2]
      have := SM.out
      rw [hsb, ← this]
    have e13 : ∀ (w : World) (d : Nat), (Op.equalIn (d + 2) 33 (.agg (outC L3)) (.agg (outC L3))).run Try.prog w = .ok true w := fun w d => by
      rw [eq_policy w d L3 L3 LL1 LL1]; simp
    have k2 : ∀ z : InW (Below w9.heap.size w9), Calls Try.prog 11 #[.agg #[.int .i64 fr, .int .i64 e.cost, .slice e.ex.A e.ex.l.length e.ex.cap, .slice e.im.A e.im.l.length e.im.cap], .agg #[.int .i64 f.from_, .int .i64 f.cost, .slice f.ex.A f.ex.l.length f.ex.cap, .slice f.im.A f.im.l.length f.im.cap]] z.val fun e w' => e = .returned (.bool sb) ∧ ∃ y : InW (Below w9.heap.size w9), w' = y.val :=
      calls_in fun w' hb => by
        have := same_any ⟨(fr : Int), e.cost, e.ex, e.im⟩ f w' (OG9.out.below hb) (OF9.out.below hb)
        rw [← hsb] at this
        exact this
    have k2H := Lib.hid k2
    have G1 : Hid (∀ z, (∃ x : InW (Below w9.heap.size w9), z = x.val) → z.heap[w2.heap.size]? = some (.cells (outC L3) 33 (0, 0))) := Lib.hid (by
      rintro _ ⟨z, rfl⟩; exact gb_blk z.prop F1.out (gb_lt F1.out))
    have G2 : Hid (∀ z, (∃ x : InW (Below w9.heap.size w9), z = x.val) → z.heap[w4.heap.size]? = some (.cells (outC L2) 33 (0, 0))) := Lib.hid (by
      rintro _ ⟨z, rfl⟩; exact gb_blk z.prop F2.out (gb_lt F2.out))
    have G3 : Hid (∀ z, (∃ x : InW (Below w9.heap.size w9), z = x.val) → z.heap[w8.heap.size]? = some (.cells (outC L3) 33 (0, 0))) := Lib.hid (by
      rintro _ ⟨z, rfl⟩; exact gb_blk z.prop F3.out (gb_lt F3.out))
    clear hb BB k2 m1 SM hsb LL1 LL2
    cases sb
    all_goals
      refine wp_region_in (Below w9.heap.size w9) (by kernel_rfl) (by kernel_rfl) (Below.refl _ _).drew ?_
      repeat (first
        | (go_big_quiet_want; first
            | (refine quiet_load_row 33 _ rfl w2.heap.size rfl 33 (outC L3) (0, 0) _ G1.out Try.underlying33 rfl (by rw [outC_size]; kernel_rfl) ?_)
            | (refine quiet_load_row 33 _ rfl w4.heap.size rfl 33 (outC L2) (0, 0) _ G2.out Try.underlying33 rfl (by rw [outC_size]; kernel_rfl) ?_)
            | (refine quiet_load_row 33 _ rfl w8.heap.size rfl 33 (outC L3) (0, 0) _ G3.out Try.underlying33 rfl (by rw [outC_size]; kernel_rfl) ?_)
           go_frame; go_big_quiet_on)
        | go_big_quiet_step (first | (with_reducible exact k2H.out _)))
      refine wpQuiet_nil ?_
      rintro _ ⟨⟨w10, hb⟩, rfl⟩
      have BF := Lib.hid (K9.out.trans (Keep.below hb))
      clear hb p5 q5 r5 s5 p6 q6 r6 s6
      go_wp2_with fail
      go_ret
      exact ⟨rfl, gb_trans B0.out (below_of_keep BF.out)⟩
end Go.Proofs.Ytimlfmklbfgliaa
