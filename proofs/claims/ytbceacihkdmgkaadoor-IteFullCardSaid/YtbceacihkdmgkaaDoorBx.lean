import Derived.Test.YtbceacihkdmgkaaDoorBuild
set_option linter.unusedVariables false
namespace Mq
/-! ### what Build makes, to the number, whatever room there is -/
def bldP (most : Nat) (t : Nat → Bool) : Nat → Nat → Nat → List Nd → List Nd × Nat
  | 0, _, fr, ns => (ns, if t fr then 1 else 0)
  | n + 1, v, fr, ns => ((mk most (bldP most t n (v + 1) (fr + 2 ^ n) (bldP most t n (v + 1) fr ns).1).1 ⟨v, (bldP most t n (v + 1) fr ns).2, (bldP most t n (v + 1) (fr + 2 ^ n) (bldP most t n (v + 1) fr ns).1).2⟩).1,
      (mk most (bldP most t n (v + 1) (fr + 2 ^ n) (bldP most t n (v + 1) fr ns).1).1 ⟨v, (bldP most t n (v + 1) fr ns).2, (bldP most t n (v + 1) (fr + 2 ^ n) (bldP most t n (v + 1) fr ns).1).2⟩).2.1)
structure BldOk (ns : List Nd) (v : Nat) (p : List Nd × Nat) : Prop where
  wf : WF p.1
  ext : Ext ns p.1
  lt : p.2 < p.1.length
  var : v ≤ var p.1 p.2
theorem bld_okNd {ns : List Nd} {v : Nat} {p q : List Nd × Nat} (hv : v < 1024) (h1 : BldOk ns (v + 1) p) (h2 : BldOk p.1 (v + 1) q) : okNd q.1 ⟨v, p.2, q.2⟩ :=
  ⟨hv, Nat.lt_of_lt_of_le h1.lt h2.ext.length, h2.lt, by have := h2.ext.var h1.lt; have := h1.var; simp only; omega, by have := h2.var; simp only; omega⟩
theorem bldP_ok (most : Nat) (t : Nat → Bool) (n : Nat) : ∀ (v fr : Nat) (ns : List Nd), WF ns → v + n ≤ 1024 → BldOk ns v (bldP most t n v fr ns) := by
  induction n with
  | zero =>
    intro v fr ns W hv
    have h2 := W.two
    refine ⟨W, Ext.refl _, ?_, ?_⟩
    · simp only [bldP]; split <;> omega
    · simp only [bldP]
      split
      · rw [(var_last W (by omega)).2 (by omega)]; omega
      · rw [(var_last W (by omega)).2 (by omega)]; omega
  | succ n ih =>
    intro v fr ns W hv
    have h1 := ih (v + 1) fr ns W (by omega)
    have h2 := ih (v + 1) (fr + 2 ^ n) _ h1.wf (by omega)
    have hok := bld_okNd (by omega) h1 h2
    have hM := mk_made (most := most) h2.wf hok
    simp only [bldP]
    refine ⟨hM.wf, (h1.ext.trans h2.ext).trans hM.ext, ?_, ?_⟩
    · by_cases e : (mk most (bldP most t n (v + 1) (fr + 2 ^ n) (bldP most t n (v + 1) fr ns).1).1 ⟨v, (bldP most t n (v + 1) fr ns).2, (bldP most t n (v + 1) (fr + 2 ^ n) (bldP most t n (v + 1) fr ns).1).2⟩).2.2 = 0
      · exact (hM.good e).1
      · rw [(hM.fail e).2.1]; exact Nat.lt_of_lt_of_le (by omega) hM.wf.two
    · by_cases e : (mk most (bldP most t n (v + 1) (fr + 2 ^ n) (bldP most t n (v + 1) fr ns).1).1 ⟨v, (bldP most t n (v + 1) fr ns).2, (bldP most t n (v + 1) (fr + 2 ^ n) (bldP most t n (v + 1) fr ns).1).2⟩).2.2 = 0
      · exact (hM.good e).2.1
      · rw [(hM.fail e).2.1, (var_last hM.wf (k := 0) (by have := hM.wf.two; omega)).2 (by omega)]; omega
theorem mk_moved {most most' : Nat} {ns : List Nd} {n : Nd} (he : (mk most ns n).2.2 = 0) (hl : (mk most ns n).1.length ≤ most') : mk most' ns n = mk most ns n := by
  unfold mk at *
  by_cases e : n.lo = n.hi
  · simp only [if_pos e]
  · simp only [if_neg e] at *
    cases hp : place ns n with
    | some k => rfl
    | none =>
      rw [hp] at he hl
      simp only at he hl
      by_cases hm : ns.length = most
      · simp [hm] at he
      · simp only [if_neg hm, List.length_append, List.length_singleton] at hl
        simp only [if_neg hm, if_neg (show ns.length ≠ most' by omega)]
theorem bldP_all (most : Nat) (t : Nat → Bool) (n : Nat) : ∀ (v fr : Nat) (ns : List Nd), WF ns → v + n ≤ 1024 → ns.length + 2 ^ n ≤ most + 1 →
    Built ns n v (fun i => t (fr + i)) (bldP most t n v fr ns).1 (bldP most t n v fr ns).2 ∧ ∀ most', (bldP most t n v fr ns).1.length ≤ most' → bldP most' t n v fr ns = bldP most t n v fr ns := by
  induction n with
  | zero =>
    intro v fr ns W hv hr
    exact ⟨built_leaf W v (by omega) (fun i => t (fr + i)), fun _ _ => rfl⟩
  | succ n ih =>
    intro v fr ns W hv hr
    have hp := Nat.pow_succ 2 n
    have hpos := Nat.two_pow_pos n
    obtain ⟨b1, s1⟩ := ih (v + 1) fr ns W (by omega) (by omega)
    have hf1 := b1.few
    obtain ⟨b2, s2⟩ := ih (v + 1) (fr + 2 ^ n) _ b1.wf (by omega) (by omega)
    have hok := built_ok (by omega) b1 b2
    have hM := mk_made (most := most) b2.wf hok
    obtain ⟨he, b3⟩ := built_node W (by omega) b1 (by simpa [Nat.add_assoc] using b2) (by omega) hM
    refine ⟨b3, fun most' hl => ?_⟩
    have l2 := hM.ext.length
    have l1 := b2.ext.length
    simp only [bldP] at hl
    rw [bldP, s1 most' (by omega), s2 most' (by omega), mk_moved he hl]
    rfl
end Mq
namespace Go.Proofs.YtbceacihkdmgkaaDoor
open Go.RowKit Mq

def IntoX (X : Nat → Prop) (a most : Nat) (W : World) (p : List Nd × Nat) (e : Ending) (W' : World) : Prop :=
  e = .returned (.int .i64 (p.2 : Nat)) ∧ Ar W' X a p.1 most ∧ Keep X W W'

set_option maxRecDepth 100000 in
set_option maxHeartbeats 1000000 in
theorem intoX_step {X : Nat → Prop} {a most bb ib ab bits : Nat} (n : Nat)
    (ih : ∀ (v fr : Nat) (W : World) (ns : List Nd), v + n = 4 → fr + 2 ^ n ≤ 16 → Ar W X a ns most → BBox W X a bb ib ab bits →
      Calls Tryd.prog 36 #[.int .i64 v, .int .i64 fr, .int .i64 (2 ^ n : Nat), .pointer (some ⟨bb, 0, none⟩), .pointer (some ⟨ib, 0, none⟩), .pointer (some ⟨ab, 0, none⟩)] W
        (IntoX X a most W (bldP most (fun i => bits.testBit i) n v fr ns)))
    (v fr m : Nat) (W : World) (ns : List Nd) (hm : m = 2 ^ n) (hv : v + (n + 1) = 4) (hf : fr + 2 ^ (n + 1) ≤ 16) (h : Ar W X a ns most) (hB : BBox W X a bb ib ab bits) :
    Calls Tryd.prog 36 #[.int .i64 v, .int .i64 fr, .int .i64 (2 * m : Nat), .pointer (some ⟨bb, 0, none⟩), .pointer (some ⟨ib, 0, none⟩), .pointer (some ⟨ab, 0, none⟩)] W
      (IntoX X a most W (bldP most (fun i => bits.testBit i) (n + 1) v fr ns)) := by
  have hp := Nat.pow_succ 2 n
  have hpos := Nat.two_pow_pos n
  obtain ⟨c0, -⟩ := cells1 hB.hi
  have O1 := Lib.hid (bldP_ok most (fun i => bits.testBit i) n (v + 1) fr ns h.wf (by omega))
  have O2 := Lib.hid (bldP_ok most (fun i => bits.testBit i) n (v + 1) (fr + m) _ O1.out.wf (by omega))
  have HP : Hid (bldP most (fun i => bits.testBit i) (n + 1) v fr ns = _) := Lib.hid (by rw [bldP, ← hm])
  have H := Lib.hid h
  have HB := Lib.hid hB
  rw [← hm] at ih
  have IH := Lib.hid ih
  clear h hB ih
  have hm1 : (((2 * m : Nat) : Int) == 1) = false := by rw [beq_eq_false_iff_ne]; omega
  have hd : ((2 * m : Nat) : Int) / 2 = (m : Int) := by omega
  have HD := Lib.hid hd
  have hm0 : m ≤ 8 := by
    have : n ≤ 3 := by omega
    have : 2 ^ n ≤ 2 ^ 3 := Nat.pow_le_pow_right (by omega) this
    omega
  have hf8 : fr ≤ 16 := by omega
  have HM := Lib.hid hm
  clear hd hm hp
  go_enter Tryd.func36, Tryd.ntmps36
  go_wp2_with fail
  refine (IH.out (v + 1) fr W ns (by omega) (by have := HM.out; omega) H.out HB.out).mono ?_
  rintro e w1 ⟨rfl, hA1, hk1⟩
  have HB1 := Lib.hid (HB.out.keep hk1)
  obtain ⟨c1, -⟩ := cells1 HB1.out.hi
  have A1 := Lib.hid hA1
  have K1 := Lib.hid hk1
  clear hA1 hk1 c0
  generalize bldP most (fun i => bits.testBit i) n (v + 1) fr ns = p at *
  go_wp2_with fail
  refine (IH.out (v + 1) (fr + m) w1 p.1 (by omega) (by have := HM.out; omega) A1.out HB1.out).mono ?_
  rintro e w2 ⟨rfl, hA2, hk2⟩
  have HB2 := Lib.hid (HB1.out.keep hk2)
  obtain ⟨c2, -⟩ := cells1 HB2.out.ha
  have A2 := Lib.hid hA2
  have K2 := Lib.hid hk2
  clear hA2 hk2 c1
  generalize bldP most (fun i => bits.testBit i) n (v + 1) (fr + m) p.1 = q at *
  obtain ⟨n1, lo⟩ := p
  obtain ⟨n2, hi⟩ := q
  simp only at *
  go_wp2_with fail
  have hok := bld_okNd (by omega) O1.out O2.out
  refine (mk_any A2.out ⟨v, lo, hi⟩ hok).mono ?_
  rintro e w3 ⟨rfl, hA3, hk3⟩
  have P := Lib.hid (And.intro hA3 ((K1.out.trans K2.out).trans hk3))
  clear hA3 hk3 hok c2
  generalize (mk most n2 ⟨v, lo, hi⟩).2.1 = k at *
  generalize (mk most n2 ⟨v, lo, hi⟩).2.2 = er at *
  generalize (mk most n2 ⟨v, lo, hi⟩).1 = ns3 at *
  generalize errv er = ev at *
  go_wp2_with fail
  go_ret
  unfold IntoX
  rw [HP.out]
  exact ⟨rfl, P.out.1, P.out.2⟩

theorem intoX_leaf {X : Nat → Prop} {a most bb ib ab bits : Nat} (v fr : Nat) (W : World) (ns : List Nd) (hf : fr < 16) (hbits : bits < 65536) (h : Ar W X a ns most) (hB : BBox W X a bb ib ab bits) :
    Calls Tryd.prog 36 #[.int .i64 v, .int .i64 fr, .int .i64 1, .pointer (some ⟨bb, 0, none⟩), .pointer (some ⟨ib, 0, none⟩), .pointer (some ⟨ab, 0, none⟩)] W
      (IntoX X a most W (bldP most (fun i => bits.testBit i) 0 v fr ns)) := by
  obtain ⟨c0, -⟩ := cells1 hB.hb
  have H := Lib.hid h
  clear h hB
  go_enter Tryd.func36, Tryd.ntmps36
  go_wp2_with fail
  go_ret
  exact ⟨ret_int (leaf_bit bits fr hbits), H.out, Keep.refl _ _⟩
theorem intoX_any {X : Nat → Prop} {a most bb ib ab bits : Nat} (hbits : bits < 65536) (n : Nat) : ∀ (v fr : Nat) (W : World) (ns : List Nd), v + n = 4 → fr + 2 ^ n ≤ 16 → Ar W X a ns most → BBox W X a bb ib ab bits →
    Calls Tryd.prog 36 #[.int .i64 v, .int .i64 fr, .int .i64 (2 ^ n : Nat), .pointer (some ⟨bb, 0, none⟩), .pointer (some ⟨ib, 0, none⟩), .pointer (some ⟨ab, 0, none⟩)] W
      (IntoX X a most W (bldP most (fun i => bits.testBit i) n v fr ns)) := by
  induction n with
  | zero =>
    intro v fr W ns hv hf hA hB
    exact intoX_leaf v fr W ns (by omega) hbits hA hB
  | succ n ih =>
    intro v fr W ns hv hf hA hB
    have := intoX_step n ih v fr (2 ^ n) W ns rfl hv hf hA hB
    rw [← Nat.mul_comm, ← Nat.pow_succ] at this
    exact this

set_option maxRecDepth 100000 in
theorem buildX_any {w : World} {X : Nat → Prop} {a : Nat} {ns : List Nd} {most : Nat} (h : Ar w X a ns most) (bits : Nat) (hbits : bits < 65536) :
    Calls Tryd.prog 22 #[.pointer (some ⟨a, 0, none⟩), .int .u16 bits] w (IntoX X a most w (bldP most (fun i => bits.testBit i) 4 0 0 ns)) := by
  have H := Lib.hid h
  clear h
  obtain ⟨p, hp⟩ : ∃ p, p = bldP most (fun i => bits.testBit i) 4 0 0 ns := ⟨_, rfl⟩
  have HP := Lib.hid hp
  rw [← hp]
  clear hp
  go_enter Tryd.func22, Tryd.ntmps22
  go_wp2_with fail
  have hb3 := below_alloc (below_alloc (below_alloc (Below.refl w.heap.size w) (.cells #[.pointer (some ⟨a, 0, none⟩)] 24)) (.cells #[.int .u16 bits] 49)) (.cells #[.func (.func 36) #[] #[.pointer (some ⟨w.heap.size + 1, 0, none⟩), .pointer (some ⟨w.heap.size + 1 + 1, 0, none⟩), .pointer (some ⟨w.heap.size, 0, none⟩)]] 67)
  have h3 := heap3 w (.cells #[.pointer (some ⟨a, 0, none⟩)] 24) (.cells #[.int .u16 bits] 49) (.cells #[.func (.func 36) #[] #[.pointer (some ⟨w.heap.size + 1, 0, none⟩), .pointer (some ⟨w.heap.size + 1 + 1, 0, none⟩), .pointer (some ⟨w.heap.size, 0, none⟩)]] 67)
  have hA := H.out.below_more hb3
  generalize (((w.alloc (.cells #[.pointer (some ⟨a, 0, none⟩)] 24)).alloc (.cells #[.int .u16 bits] 49)).alloc (.cells #[.func (.func 36) #[] #[.pointer (some ⟨w.heap.size + 1, 0, none⟩), .pointer (some ⟨w.heap.size + 1 + 1, 0, none⟩), .pointer (some ⟨w.heap.size, 0, none⟩)]] 67)) = W at *
  obtain ⟨e1, e2, e3, e4⟩ := h3
  have hB : BBox W (fun k => X k ∨ w.heap.size ≤ k ∧ k < W.heap.size) a (w.heap.size + 1) (w.heap.size + 1 + 1) w.heap.size bits := ⟨e2, e3, e1, by rw [e4]; omega, by rw [e4]; omega, by rw [e4]; omega⟩
  refine (intoX_any hbits 4 0 0 W ns rfl (by decide) hA hB).mono ?_
  rw [← HP.out]
  rintro e w1 ⟨rfl, hA1, hk1⟩
  have P := Lib.hid (And.intro (hA1.mono fun _ hk => .inl hk) ((Keep.below hb3).trans (hk1.mono fun _ hk => .inl hk)))
  clear hA1 hk1 hB hA hb3 e1 e2 e3 e4
  go_wp2_with fail
  go_ret
  exact ⟨rfl, P.out.1, P.out.2⟩
end Go.Proofs.YtbceacihkdmgkaaDoor
