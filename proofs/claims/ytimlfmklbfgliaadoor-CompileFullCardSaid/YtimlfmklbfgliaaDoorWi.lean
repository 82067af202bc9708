import Derived.Test.YtimlfmklbfgliaaDoorEr
set_option linter.unusedVariables false
namespace Go.Proofs.YtimlfmklbfgliaaDoor
open Go.RowKit Mq

def px10 : Pfx := ⟨167772160, 32⟩
theorem px10_ok : px10.Ok := ⟨by decide, by decide, by decide⟩
def plainL (rs : List Rul) : List Cl := forL (ruleCls rs) px10
theorem plainL_ok {rs : List Rul} (h : ∀ r ∈ rs, r.Ok) : ∀ c ∈ plainL rs, c.Ok := forL_ok _ (ruleCls_ok h)
theorem plainL_len (rs : List Rul) : (plainL rs).length ≤ 5 := Nat.le_trans (forL_len _ _) (ruleCls_len rs)
set_option maxRecDepth 100000 in
theorem plain_any (s : SlV Rul) (w : World) (hs : SlOk rulc 6 (fun _ r => r.Ok) w s) :
    Calls Tryd.prog 13 #[.slice s.A s.l.length s.cap] w (ForPost w (plainL s.l)) := by
  have S := Lib.hid hs
  clear hs
  go_enter Tryd.func13, Tryd.ntmps13
  go_wp2_with fail
  refine (clauses_any s.A s.cap s.l S.out.ok w S.out.at_ S.out.len_le).mono ?_
  rintro e w1 ⟨Ac, cc, rfl, hown, hb⟩
  have SC := Lib.hid hown.at_
  have B := Lib.hid hb
  have HL := ruleCls_len s.l
  have HCO := Lib.hid (ruleCls_ok S.out.ok)
  have HP : Hid (plainL s.l = forL (ruleCls s.l) px10) := Lib.hid rfl
  clear hown hb
  generalize ruleCls s.l = cs at *
  go_wp2_with fail
  refine (for_any Ac cc cs HCO.out px10 px10_ok w1 SC.out (by omega)).mono ?_
  rintro e w2 ⟨Af, cf, rfl, hown, hb⟩
  rw [← HP.out] at hown ⊢
  have O2 := Lib.hid hown
  have B2 := Lib.hid (gb_trans B.out hb)
  have HZ := Lib.hid B.out.size
  clear hown hb
  go_wp2_with fail
  go_ret
  exact ⟨Af, cf, rfl, own_base O2.out HZ.out, B2.out⟩

def edv (E : EdV) : Value := .agg #[.int .i64 E.from_, .int .i64 E.cost, .slice E.ex.A E.ex.l.length E.ex.cap, .slice E.im.A E.im.l.length E.im.cap]
/-- What a wire's edge is. -/
def WePost (w : World) (v : WiV) (e : Ending) (w' : World) : Prop :=
  ∃ E : EdV, e = .returned (edv E) ∧ EdOk w' E ∧ E.from_ = (v.from_ : Int) ∧ E.cost = 1 + (v.cost : Int) % 3 ∧ E.ex.l = plainL v.ex.l ∧ E.im.l = plainL v.im.l ∧ Below w.heap.size w w'
theorem ForPost.sl {w' : World} {B : Nat} {r : List Cl} {A : Option Addr} {c : Nat} (hr : ∀ c ∈ r, c.Ok) (h5 : r.length ≤ 5) (h : OwnsCls w' B (.slice A r.length c) r) : SlOk clc 10 (fun _ c => c.Ok) w' ⟨A, c, r⟩ := by
  refine ⟨h.at_, hr, ?_, ?_⟩
  · rcases h.2 with ⟨h1, h2⟩ | ⟨g, cap, cur, h1, h2, h3, h4, h5, h6⟩
    · show r.length ≤ c; omega
    · injection h1 with _ _ hc; show r.length ≤ c; omega
  · rcases h.2 with ⟨h1, h2⟩ | ⟨g, cap, cur, h1, h2, h3, h4, h5, h6⟩
    · injection h1 with _ _ hc; show c ≤ maxLen; unfold maxLen; omega
    · injection h1 with _ _ hc; show c ≤ maxLen; rw [hc]; exact h5
set_option maxRecDepth 100000 in
set_option maxHeartbeats 2000000 in
theorem wire_any (v : WiV) (w : World) (hv : WiOk w v) :
    Calls Tryd.prog 7 #[.agg #[.int .u8 v.from_, .int .u8 v.cost, .slice v.ex.A v.ex.l.length v.ex.cap, .slice v.im.A v.im.l.length v.im.cap]] w (WePost w v) := by
  have V := Lib.hid hv
  have hf := hv.from_
  have hc := hv.cost
  clear hv
  go_enter Tryd.func7, Tryd.ntmps7
  go_wp2_with fail
  have b1 := gb_old _ (.cells #[.int .i64 0, .int .i64 0, .slice none 0 0, .slice none 0 0] 36) (gb_new w (.cells #[.int .u8 v.from_, .int .u8 v.cost, .slice v.ex.A v.ex.l.length v.ex.cap, .slice v.im.A v.im.l.length v.im.cap] 24))
  have b2 := gb_new (w.alloc (.cells #[.int .u8 v.from_, .int .u8 v.cost, .slice v.ex.A v.ex.l.length v.ex.cap, .slice v.im.A v.im.l.length v.im.cap] 24)) (.cells #[.int .i64 0, .int .i64 0, .slice none 0 0, .slice none 0 0] 36)
  have hB := gb_alloc (gb_alloc (Below.refl w.heap.size w) (.cells #[.int .u8 v.from_, .int .u8 v.cost, .slice v.ex.A v.ex.l.length v.ex.cap, .slice v.im.A v.im.l.length v.im.cap] 24)) (.cells #[.int .i64 0, .int .i64 0, .slice none 0 0, .slice none 0 0] 36)
  simp only [World.size_alloc] at b2
  generalize (w.alloc (.cells #[.int .u8 v.from_, .int .u8 v.cost, .slice v.ex.A v.ex.l.length v.ex.cap, .slice v.im.A v.im.l.length v.im.cap] 24)).alloc (.cells #[.int .i64 0, .int .i64 0, .slice none 0 0, .slice none 0 0] 36) = W at *
  have V1 := Lib.hid (V.out.below hB)
  have hS : ∀ w', Below W.heap.size W w' → w'.cell? ⟨w.heap.size, 0, none⟩ = some (.int .u8 v.from_) ∧ w'.cell? ⟨w.heap.size, 1, none⟩ = some (.int .u8 v.cost) ∧ w'.cell? ⟨w.heap.size, 2, none⟩ = some (.slice v.ex.A v.ex.l.length v.ex.cap) ∧ w'.cell? ⟨w.heap.size, 3, none⟩ = some (.slice v.im.A v.im.l.length v.im.cap) := fun w' hb => by
    have h := gb_blk hb b1 (gb_lt b1)
    exact ⟨gb_cell h 0, gb_cell h 1, gb_cell h 2, gb_cell h 3⟩
  have HS := Lib.hid hS
  have B2 := Lib.hid b2
  have BB := Lib.hid hB
  have BD := Lib.hid ((Below.refl W.heap.size W).drew)
  have s2 := gb_lt b2
  have e1 : IntKind.i64.wrap (v.from_ : Int) = (v.from_ : Int) := by rw [IntKind.wrap_i64]; omega
  have e2 : (v.cost : Int).tmod 3 = (v.cost : Int) % 3 := Int.tmod_eq_emod_of_nonneg (by omega)
  have e3 : IntKind.i64.wrap ((v.cost : Int) % 3) = (v.cost : Int) % 3 := by rw [IntKind.wrap_i64]; omega
  have e4 : IntKind.i64.wrap (1 + (v.cost : Int) % 3) = 1 + (v.cost : Int) % 3 := by rw [IntKind.wrap_i64]; omega
  clear hS b1 b2 hB
  go_region_held3 (fun w' => w'.cell? ⟨w.heap.size, 0, none⟩ = some (.int .u8 v.from_) ∧ w'.cell? ⟨w.heap.size, 1, none⟩ = some (.int .u8 v.cost) ∧ w'.cell? ⟨w.heap.size, 2, none⟩ = some (.slice v.ex.A v.ex.l.length v.ex.cap) ∧ w'.cell? ⟨w.heap.size, 3, none⟩ = some (.slice v.im.A v.im.l.length v.im.cap))
    (first | exact HS.out _ BD.out | exact HS.out _ B8.out | exact HS.out _ B9.out | go_keep)
    (first
      | (go_at_call_of 13 v.ex.A; refine (plain_any v.ex _ (V1.out.below BD.out).ex).mono ?_; rintro e w8 ⟨A8, c8, rfl, hown8, hb8⟩; have O8 := Lib.hid hown8; have B8 := Lib.hid (gb_trans BD.out hb8); clear hown8 hb8)
      | (go_at_call_of 13 v.im.A; refine (plain_any v.im _ (V1.out.below B8.out).im).mono ?_; rintro e w9 ⟨A9, c9, rfl, hown9, hb9⟩; have O9 := Lib.hid hown9; have BX := Lib.hid hb9; have B9 := Lib.hid (gb_trans B8.out hb9); have t9 := gb_blk B9.out B2.out (gb_lt B2.out); obtain ⟨z0, z1, z2, z3⟩ := gb_cells4 t9; have g0 := gb_free t9 0; have g1 := gb_free t9 1; have g2 := gb_free t9 2; have g3 := gb_free t9 3; have s9 := gb_lt t9; clear hown9 hb9 t9))
  all_goals go_wp2_with fail
  have o8 : ∀ (p1 p2 p3 p4 : Addr) (u1 u2 u3 u4 : Value), p1.block < W.heap.size → p2.block < W.heap.size → p3.block < W.heap.size → p4.block < W.heap.size →
      EdOk ((((w9.setCell p1 u1).setCell p2 u2).setCell p3 u3).setCell p4 u4) ⟨(v.from_ : Int), 1 + (v.cost : Int) % 3, ⟨A8, c8, plainL v.ex.l⟩, ⟨A9, c9, plainL v.im.l⟩⟩ := fun p1 p2 p3 p4 u1 u2 u3 u4 h1 h2 h3 h4 => by
    have q8 : OwnsCls _ _ _ _ := ownsRow_setCell_below (ownsRow_setCell_below (ownsRow_setCell_below (ownsRow_setCell_below (own_base (ow_below O8.out BX.out) (show W.heap.size ≤ W.drew.heap.size from Nat.le_refl _)) h1 u1) h2 u2) h3 u3) h4 u4
    have q9 : OwnsCls _ _ _ _ := ownsRow_setCell_below (ownsRow_setCell_below (ownsRow_setCell_below (ownsRow_setCell_below (own_base O9.out B8.out.size) h1 u1) h2 u2) h3 u3) h4 u4
    exact ⟨by simp only [is64]; omega, by simp only [is64]; omega, ForPost.sl (plainL_ok V.out.ex.ok) (plainL_len _) q8, ForPost.sl (plainL_ok V.out.im.ok) (plainL_len _) q9⟩
  refine bodyPost_ret (v := edv ⟨(v.from_ : Int), 1 + (v.cost : Int) % 3, ⟨A8, c8, plainL v.ex.l⟩, ⟨A9, c9, plainL v.im.l⟩⟩) (by simp [results, Tryd.results7, go_sem, edv, *]) rfl ⟨⟨(v.from_ : Int), 1 + (v.cost : Int) % 3, ⟨A8, c8, plainL v.ex.l⟩, ⟨A9, c9, plainL v.im.l⟩⟩, rfl, ?_, rfl, rfl, rfl, rfl, ?_⟩
  · exact o8 _ _ _ _ _ _ _ _ (by simp <;> omega) (by simp <;> omega) (by simp <;> omega) (by simp <;> omega)
  · repeat (refine Below.setCell ?_ (by simp <;> omega) _)
    exact gb_trans BB.out B9.out
end Go.Proofs.YtimlfmklbfgliaaDoor
