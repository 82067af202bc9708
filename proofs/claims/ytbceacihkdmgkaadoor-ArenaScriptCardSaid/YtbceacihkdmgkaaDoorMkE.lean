import Derived.Test.YtbceacihkdmgkaaDoorMk
set_option linter.unusedVariables false
namespace Go.Proofs.YtbceacihkdmgkaaDoor
open Go.RowKit Mq

/-- May a node of these numbers be asked for? -/
def okZ (ns : List Nd) (v lo hi : Int) : Prop := 0 ≤ v ∧ v < 1024 ∧ 0 ≤ lo ∧ lo < ns.length ∧ 0 ≤ hi ∧ hi < ns.length ∧ v < (var ns lo.toNat : Nat) ∧ v < (var ns hi.toNat : Nat)
theorem okZ.nd {ns : List Nd} {v lo hi : Int} (h : okZ ns v lo hi) : ∃ n : Nd, v = n.v ∧ lo = n.lo ∧ hi = n.hi ∧ okNd ns n := by
  obtain ⟨h1, h2, h3, h4, h5, h6, h7, h8⟩ := h
  exact ⟨⟨v.toNat, lo.toNat, hi.toNat⟩, by simp; omega, by simp; omega, by simp; omega, by simp; omega, by simp; omega, by simp; omega, by simp; omega, by simp; omega⟩
theorem okNd.z {ns : List Nd} {n : Nd} (h : okNd ns n) : okZ ns n.v n.lo n.hi := by
  obtain ⟨h1, h2, h3, h4, h5⟩ := h
  exact ⟨by omega, by omega, by omega, by omega, by omega, by omega, by simp; omega, by simp; omega⟩

set_option maxRecDepth 100000 in
set_option maxHeartbeats 2000000 in
/-- Mk, of a node that may not be asked for. -/
theorem mk_bad {w : World} {X : Nat → Prop} {a : Nat} {ns : List Nd} {most : Nat} (h : Ar w X a ns most) (v lo hi : Int) (bad : ¬ okZ ns v lo hi) :
    Calls Tryd.prog 11 #[.pointer (some ⟨a, 0, none⟩), .int .i64 v, .int .i64 lo, .int .i64 hi] w (MkPost X a most w ns 0 10) := by
  have hlt := h.lt
  have hle := h.len_le
  have h' := h
  obtain ⟨sb, g, cap, cur, h⟩ := h
  obtain ⟨h0, h1, h2, -⟩ := h.fields
  by_cases b1 : v < 0
  · clear h
    have H := Lib.hid h'; clear h' bad
    go_enter Tryd.func11, Tryd.ntmps11
    go_wp2
    go_ret2
    exact MkPost.of rfl rfl H.out (Keep.refl _ _)
  by_cases b2 : 1024 ≤ v
  · clear h
    have H := Lib.hid h'; clear h' bad
    go_enter Tryd.func11, Tryd.ntmps11
    go_wp2
    go_ret2
    exact MkPost.of rfl rfl H.out (Keep.refl _ _)
  by_cases b3 : lo < 0
  · clear h
    have H := Lib.hid h'; clear h' bad
    go_enter Tryd.func11, Tryd.ntmps11
    go_wp2
    go_ret2
    exact MkPost.of rfl rfl H.out (Keep.refl _ _)
  by_cases b4 : (ns.length : Int) ≤ lo
  · clear h
    have H := Lib.hid h'; clear h' bad
    go_enter Tryd.func11, Tryd.ntmps11
    go_wp2
    go_ret2
    exact MkPost.of rfl rfl H.out (Keep.refl _ _)
  by_cases b5 : hi < 0
  · clear h
    have H := Lib.hid h'; clear h' bad
    go_enter Tryd.func11, Tryd.ntmps11
    go_wp2
    go_ret2
    exact MkPost.of rfl rfl H.out (Keep.refl _ _)
  by_cases b6 : (ns.length : Int) ≤ hi
  · clear h
    have H := Lib.hid h'; clear h' bad
    go_enter Tryd.func11, Tryd.ntmps11
    go_wp2
    go_ret2
    exact MkPost.of rfl rfl H.out (Keep.refl _ _)
  obtain ⟨l, rfl⟩ := Int.eq_ofNat_of_zero_le (show 0 ≤ lo by omega)
  obtain ⟨i, rfl⟩ := Int.eq_ofNat_of_zero_le (show 0 ≤ hi by omega)
  have b4' : l < ns.length := by omega
  have b6' : i < ns.length := by omega
  obtain ⟨c0, -, -⟩ := h.node b4'
  obtain ⟨d0, -, -⟩ := h.node b6'
  have B : (nd ns l).v ≤ v ∨ (nd ns i).v ≤ v := by
    unfold okZ var at bad
    simp only [Int.toNat_natCast] at bad
    omega
  clear h bad
  have H := Lib.hid h'; clear h'
  generalize (nd ns l).v = x at *
  generalize (nd ns i).v = y at *
  by_cases b7 : (x : Int) ≤ v
  · clear B d0
    go_enter Tryd.func11, Tryd.ntmps11
    go_wp2
    go_ret2
    exact MkPost.of rfl rfl H.out (Keep.refl _ _)
  · have b8 : (y : Int) ≤ v := by omega
    clear B
    go_enter Tryd.func11, Tryd.ntmps11
    go_wp2
    go_ret2
    exact MkPost.of rfl rfl H.out (Keep.refl _ _)
end Go.Proofs.YtbceacihkdmgkaaDoor
