import Derived.Test.YteciceelinbfoaaDoorRw1
set_option linter.unusedVariables false
namespace Go.Proofs.YteciceelinbfoaaDoor
open Go.RowKit Mq

/-- A slice of rules. -/
def RlsAt (w : World) (B : Nat) (A : Option Addr) (rs : List Rul) : Prop := Sli rulc 6 w B A rs
theorem RlsAt.get {w : World} {B : Nat} {A : Option Addr} {rs : List Rul} (h : RlsAt w B A rs) {k : Nat} {r : Rul} (hk : rs[k]? = some r) : ∃ b off, A = some ⟨b, off, none⟩ ∧ b < B ∧
    w.cell? ⟨b, off + k * 6, none⟩ = some (.int .u8 r.t) ∧ w.cell? ⟨b, off + k * 6 + 1, none⟩ = some (.int .u8 r.w) ∧ w.cell? ⟨b, off + k * 6 + 2, none⟩ = some (.int .u8 r.o) ∧ w.cell? ⟨b, off + k * 6 + 3, none⟩ = some (.int .u8 r.d) ∧ w.cell? ⟨b, off + k * 6 + 4, none⟩ = some (.int .u8 r.m) ∧ w.cell? ⟨b, off + k * 6 + 5, none⟩ = some (.int .u8 r.p) := by
  obtain ⟨b, off, hA, hB, hc⟩ := h (by have := (List.getElem?_eq_some_iff.1 hk).1; omega)
  have := hc k r hk
  exact ⟨b, off, hA, hB, this 0 (by omega), this 1 (by omega), this 2 (by omega), this 3 (by omega), this 4 (by omega), this 5 (by omega)⟩
def ruleCls (rs : List Rul) : List Cl := (rs.take 5).map ruleCl
theorem ruleCls_ok {rs : List Rul} (h : ∀ r ∈ rs, r.Ok) : ∀ c ∈ ruleCls rs, c.Ok := by
  intro c hc
  obtain ⟨r, hr, rfl⟩ := List.mem_map.1 hc
  exact ruleCl_ok (h r (List.mem_of_mem_take hr))
theorem ruleCls_len (rs : List Rul) : (ruleCls rs).length ≤ 5 := by simp [ruleCls]; omega
theorem take5_next {rs : List Rul} {k : Nat} {r : Rul} (hk : rs[k]? = some r) (h : k < 5) : (rs.take (min (k + 1) 5)).map ruleCl = (rs.take (min k 5)).map ruleCl ++ [ruleCl r] := by
  rw [show min (k + 1) 5 = k + 1 by omega, show min k 5 = k by omega, List.take_add_one, hk]
  simp
theorem take5_all (rs : List Rul) : rs.take 5 = rs.take (min rs.length 5) := by
  rcases Nat.lt_or_ge rs.length 5 with h | h
  · rw [List.take_of_length_le (by omega), List.take_of_length_le (by omega)]
  · rw [show min rs.length 5 = 5 by omega]
theorem take5_len {rs : List Rul} {k : Nat} (h : k < 5) (hk : k < rs.length) : ((rs.take (min k 5)).map ruleCl).length = k := by simp; omega

set_option maxRecDepth 100000 in
set_option maxHeartbeats 2000000 in
theorem clauses_any (A : Option Addr) (cap : Nat) (rs : List Rul) (hrs : ∀ r ∈ rs, r.Ok) (w : World) (hs : RlsAt w w.heap.size A rs) (hn : rs.length ≤ 9223372036854775807) :
    Calls Tryd.prog 20 #[.slice A rs.length cap] w (ForPost w (ruleCls rs)) := by
  have S := Lib.hid hs
  clear hs
  go_enter Tryd.func20, Tryd.ntmps20
  go_wp2_with fail
  go_loopw [3, 8] (fun v i wr => ∃ k : Nat, i = .int .i64 (k : Nat) ∧ k ≤ rs.length ∧ OwnsCls wr w.heap.size v ((rs.take (min k 5)).map ruleCl) ∧ Below w.heap.size w wr) (fun _ i _ => rs.length - (intOf i).toNat)
  case atStart => exact ⟨0, rfl, by omega, by have := World.ownsRow_nil w w.heap.size 88 10; unfold OwnsCls; simpa using this, Below.refl _ _⟩
  case round =>
    obtain ⟨k, rfl, hk, ho, hb⟩ := hrel
    obtain ⟨pre, hpre⟩ : ∃ pre, pre = (rs.take (min k 5)).map ruleCl := ⟨_, rfl⟩
    have HP := Lib.hid hpre
    have hpl : pre.length ≤ 5 := by rw [hpre]; simp; omega
    rw [← hpre] at ho
    clear hpre
    obtain ⟨Av, cv, rfl⟩ := ho.form
    have O := Lib.hid ho
    have B := Lib.hid hb
    by_cases hlt : k < rs.length
    · obtain ⟨r, hr⟩ : ∃ r, rs[k]? = some r := ⟨_, List.getElem?_eq_getElem hlt⟩
      obtain ⟨b, off, rfl, hbb, e0, e1, e2, e3, e4, e5⟩ := RlsAt.get (S.out.below hb) hr
      have hrok := hrs r (List.mem_of_getElem? hr)
      have C := Lib.hid hr
      have hsz := hb.size
      clear ho hb hr
      by_cases h5 : k < 5
      · obtain ⟨i0, hi0, hz0, hz1, hz2⟩ := info_parts clause_info
        go_wp2_with (first
          | (go_at_call 27; refine (rule_any r hrok _).mono ?_; rintro e w1 ⟨rfl, hb1⟩; unfold clv; have hb2 := gb_trans (gb_alloc (Below.refl wr.heap.size wr) _) hb1; have O1 := Lib.hid (ow_below O.out hb2); have B1 := Lib.hid (gb_trans B.out hb2); have s1 := hb2.size; clear hb1 hb2)
          | (at_builtin; refine wpList_append_lies _ rfl _ _ _ rfl w.heap.size 88 i0 _ 10 48 Tryd.underlying55 hi0 hz0 hz1 hz2 rfl (by omega) _ pre.length (pre.flatMap clc) rfl (ow_alloc O1.out _) ⟨w1.heap.size, 0, none⟩ 1 1 (clc (ruleCl r)) rfl rfl (World.news_of_block (cs := (clc (ruleCl r)).toArray) (heap_alloc_new w1 _)) (by intro u hu; simp [clc] at hu; rcases hu with rfl | rfl | rfl | rfl | rfl | rfl | rfl | rfl | rfl | rfl <;> rfl) (by omega) (by unfold maxLen; omega) (by omega) (by simp; omega) _ rfl ?_; intro g cap' w7 hown7 hgrow hat hlt7))
        have B7 := Lib.hid (ow_grown (gb_alloc B1.out _) hgrow O1.out (by simp; omega))
        have O7 : Hid (OwnsCls w7 w.heap.size (.slice (some ⟨g, 0, none⟩) (pre.length + 1) cap') (pre ++ [ruleCl r])) := Lib.hid (by have := hown7; unfold OwnsCls; rw [List.length_append, List.flatMap_append, List.length_singleton]; simpa using this)
        clear hgrow hat hown7 hi0 hz0 hz1 hz2
        go_roundw
        case rel => exact ⟨k + 1, by go_num, by omega, by rw [take5_next C.out h5, ← HP.out]; exact O7.out, B7.out⟩
        case measure => simp [intOf] <;> omega
      · have h5' : decide ((k : Int) < 5) = false := by simp; omega
        go_wp2_with fail
        go_roundw
        case rel => exact ⟨k + 1, by go_num, by omega, by rw [show min (k + 1) 5 = min k 5 by omega, ← HP.out]; exact ow_alloc O.out _, gb_trans B.out (gb_alloc (Below.refl _ _) _)⟩
        case measure => simp [intOf] <;> omega
    · have hk' : k = rs.length := by omega
      subst hk'
      have HF : Hid (ruleCls rs = pre) := Lib.hid (by rw [HP.out, ruleCls, take5_all])
      go_wp2_with fail
      go_ret
      exact ⟨Av, cv, by rw [HF.out]; rfl, by rw [HF.out]; exact O.out, B.out⟩
end Go.Proofs.YteciceelinbfoaaDoor
