import Derived.Test.YtbceacihkdmgkaaDoorEvalW
import Derived.Test.YtbceacihkdmgkaaDoorBdt
import Derived.Laws.BitsAllLaws
import Derived.Laws.BitsLemmas
import Derived.Laws.EntriesVeiled
set_option linter.unusedVariables false
namespace Go.Proofs.YtbceacihkdmgkaaDoor
open Go.RowKit Mq

structure BBox (W : World) (X : Nat → Prop) (a bb ib ab bits : Nat) : Prop where
  hb : W.heap[bb]? = some (.cells #[.int .u16 bits] 49 (0, 0))
  hi : W.heap[ib]? = some (.cells #[.func (.func 36) #[] #[.pointer (some ⟨bb, 0, none⟩), .pointer (some ⟨ib, 0, none⟩), .pointer (some ⟨ab, 0, none⟩)]] 67 (0, 0))
  ha : W.heap[ab]? = some (.cells #[.pointer (some ⟨a, 0, none⟩)] 24 (0, 0))
  xb : X bb
  xi : X ib
  xa : X ab
theorem BBox.keep {W W' : World} {X : Nat → Prop} {a bb ib ab bits : Nat} (h : BBox W X a bb ib ab bits) (hk : Keep X W W') : BBox W' X a bb ib ab bits :=
  ⟨(hk.block _ h.xb (Array.getElem?_eq_some_iff.1 h.hb).1).trans h.hb, (hk.block _ h.xi (Array.getElem?_eq_some_iff.1 h.hi).1).trans h.hi, (hk.block _ h.xa (Array.getElem?_eq_some_iff.1 h.ha).1).trans h.ha, h.xb, h.xi, h.xa⟩

def IntoPost (X : Nat → Prop) (a most : Nat) (W : World) (ns : List Nd) (n v : Nat) (t : Nat → Bool) (e : Ending) (W' : World) : Prop :=
  ∃ ns' k, e = .returned (.int .i64 (k : Nat)) ∧ Built ns n v t ns' k ∧ Ar W' X a ns' most ∧ Keep X W W'

theorem u16_and_nat (a b : Nat) (ha : a < 65536) (hb : b < 65536) : bits .and .u16 (a : Int) (b : Int) = ((a &&& b : Nat) : Int) := by
  have hx : a &&& b < 2 ^ 16 := Nat.and_lt_two_pow _ (by omega)
  have e : ∀ c : Nat, c < 65536 → (BitVec.ofInt 16 (c : Int)).toNat = c := fun c hc => by
    rw [BitVec.ofInt_natCast, BitVec.toNat_ofNat]; exact Nat.mod_eq_of_lt (by omega)
  show IntKind.u16.wrap ((BitVec.ofInt 16 (a : Int) &&& BitVec.ofInt 16 (b : Int)).toNat : Int) = _
  rw [BitVec.toNat_and, e a ha, e b hb, IntKind.wrap_u16]
  omega
theorem leaf_bit (b fr : Nat) (hb : b < 65536) : wrap64 (Go.bits BinOp.and IntKind.u16 ((b : Int) / 2 ^ fr) 1) = ((if b.testBit fr then 1 else 0 : Nat) : Int) := by
  have h1 : ((b : Int) / 2 ^ fr) = ((b / 2 ^ fr : Nat) : Int) := by simp
  have hlt : b / 2 ^ fr < 65536 := Nat.lt_of_le_of_lt (Nat.div_le_self _ _) hb
  have h2 := u16_and_nat (b / 2 ^ fr) 1 hlt (by omega)
  rw [show ((1 : Nat) : Int) = 1 from rfl] at h2
  rw [h1, h2, Nat.and_one_is_mod]
  have h3 : b.testBit fr = decide (b / 2 ^ fr % 2 = 1) := by rw [Nat.testBit_eq_decide_div_mod_eq]
  rw [h3]
  unfold wrap64
  by_cases h : b / 2 ^ fr % 2 = 1
  · simp [h]
  · have : b / 2 ^ fr % 2 = 0 := by omega
    simp [this]

set_option maxRecDepth 100000 in
theorem into_leaf {X : Nat → Prop} {a most bb ib ab bits : Nat} (v fr : Nat) (W : World) (ns : List Nd) (hv : v ≤ 4) (hf : fr < 16) (hbits : bits < 65536) (h : Ar W X a ns most) (hB : BBox W X a bb ib ab bits) :
    Calls Tryd.prog 36 #[.int .i64 v, .int .i64 fr, .int .i64 1, .pointer (some ⟨bb, 0, none⟩), .pointer (some ⟨ib, 0, none⟩), .pointer (some ⟨ab, 0, none⟩)] W
      (IntoPost X a most W ns 0 v fun i => bits.testBit (fr + i)) := by
  obtain ⟨c0, -⟩ := cells1 hB.hb
  have H := Lib.hid h
  clear h hB
  go_enter Tryd.func36, Tryd.ntmps36
  go_wp2_with fail
  go_ret
  have hl := built_leaf H.out.wf v (by omega) (fun i => bits.testBit (fr + i))
  refine ⟨ns, _, ?_, hl, H.out, Keep.refl _ _⟩
  exact ret_int (leaf_bit bits fr hbits)

set_option maxRecDepth 100000 in
set_option maxHeartbeats 1000000 in
theorem into_step {X : Nat → Prop} {a most bb ib ab bits : Nat} (n : Nat)
    (ih : ∀ (v fr : Nat) (W : World) (ns : List Nd), v + n = 4 → fr + 2 ^ n ≤ 16 → Ar W X a ns most → BBox W X a bb ib ab bits → ns.length + 2 ^ n ≤ most + 1 →
      Calls Tryd.prog 36 #[.int .i64 v, .int .i64 fr, .int .i64 (2 ^ n : Nat), .pointer (some ⟨bb, 0, none⟩), .pointer (some ⟨ib, 0, none⟩), .pointer (some ⟨ab, 0, none⟩)] W
        (IntoPost X a most W ns n v fun i => bits.testBit (fr + i)))
    (v fr m : Nat) (W : World) (ns : List Nd) (hm : m = 2 ^ n) (hv : v + (n + 1) = 4) (hf : fr + 2 ^ (n + 1) ≤ 16) (h : Ar W X a ns most) (hB : BBox W X a bb ib ab bits) (hroom : ns.length + 2 ^ (n + 1) ≤ most + 1) :
    Calls Tryd.prog 36 #[.int .i64 v, .int .i64 fr, .int .i64 (2 * m : Nat), .pointer (some ⟨bb, 0, none⟩), .pointer (some ⟨ib, 0, none⟩), .pointer (some ⟨ab, 0, none⟩)] W
      (IntoPost X a most W ns (n + 1) v fun i => bits.testBit (fr + i)) := by
  have hp := Nat.pow_succ 2 n
  have hpos := Nat.two_pow_pos n
  obtain ⟨c0, -⟩ := cells1 hB.hi
  have H := Lib.hid h
  have HB := Lib.hid hB
  rw [← hm] at ih
  have IH := Lib.hid ih
  clear h hB ih
  have hm1 : (((2 * m : Nat) : Int) == 1) = false := by rw [beq_eq_false_iff_ne]; omega
  have hd : ((2 * m : Nat) : Int) / 2 = (m : Int) := by omega
  have HD := Lib.hid hd
  have hm0 : m ≤ 8 := by
    have : n ≤ 3 := by omega
    have : 2 ^ n ≤ 2 ^ 3 := Nat.pow_le_pow_right (by omega) this
    omega
  have hf8 : fr ≤ 16 := by omega
  have HM := Lib.hid hm
  clear hd hm hp
  go_enter Tryd.func36, Tryd.ntmps36
  go_wp2_with fail
  refine (IH.out (v + 1) fr W ns (by omega) (by have := HM.out; omega) H.out HB.out (by have := HM.out; omega)).mono ?_
  rintro e w1 ⟨ns1, lo, rfl, hb1, hA1, hk1⟩
  have HB1 := Lib.hid (HB.out.keep hk1)
  obtain ⟨c1, -⟩ := cells1 HB1.out.hi
  have B1 := Lib.hid hb1
  have A1 := Lib.hid hA1
  have K1 := Lib.hid hk1
  clear hb1 hA1 hk1 c0
  go_wp2_with fail
  refine (IH.out (v + 1) (fr + m) w1 ns1 (by omega) (by have := HM.out; omega) A1.out HB1.out (by have := HM.out; have := B1.out.few; rw [← HM.out] at this; omega)).mono ?_
  rintro e w2 ⟨ns2, hi, rfl, hb2, hA2, hk2⟩
  have HB2 := Lib.hid (HB1.out.keep hk2)
  obtain ⟨c2, -⟩ := cells1 HB2.out.ha
  have B2 := Lib.hid hb2
  have A2 := Lib.hid hA2
  have K2 := Lib.hid hk2
  clear hb2 hA2 hk2 c1
  go_wp2_with fail
  have hok := built_ok (by omega) B1.out B2.out
  refine (mk_any A2.out ⟨v, lo, hi⟩ hok).mono ?_
  rintro e w3 ⟨rfl, hA3, hk3⟩
  have hM := mk_made (most := most) A2.out.wf hok
  obtain ⟨he, hB3⟩ := built_node H.out.wf (by omega) B1.out (by simpa [Nat.add_assoc, HM.out] using B2.out) (by omega) hM
  have P := Lib.hid (And.intro hB3 (And.intro hA3 ((K1.out.trans K2.out).trans hk3)))
  clear hB3 hA3 hk3 hM
  rw [he]
  generalize (mk most ns2 ⟨v, lo, hi⟩).2.1 = k at *
  generalize (mk most ns2 ⟨v, lo, hi⟩).1 = ns3 at *
  clear he hok c2
  have he0 : errv 0 = .nilIface := rfl
  rw [he0]
  clear he0
  go_wp2_with fail
  go_ret
  exact ⟨ns3, k, rfl, P.out.1, P.out.2.1, P.out.2.2⟩

theorem into_any {X : Nat → Prop} {a most bb ib ab bits : Nat} (hbits : bits < 65536) (n : Nat) : ∀ (v fr : Nat) (W : World) (ns : List Nd), v + n = 4 → fr + 2 ^ n ≤ 16 → Ar W X a ns most → BBox W X a bb ib ab bits → ns.length + 2 ^ n ≤ most + 1 →
    Calls Tryd.prog 36 #[.int .i64 v, .int .i64 fr, .int .i64 (2 ^ n : Nat), .pointer (some ⟨bb, 0, none⟩), .pointer (some ⟨ib, 0, none⟩), .pointer (some ⟨ab, 0, none⟩)] W
      (IntoPost X a most W ns n v fun i => bits.testBit (fr + i)) := by
  induction n with
  | zero => exact fun v fr W ns hv hf hA hB _ => into_leaf v fr W ns (by omega) (by omega) hbits hA hB
  | succ n ih =>
    intro v fr W ns hv hf hA hB hr
    have := into_step n ih v fr (2 ^ n) W ns rfl hv hf hA hB hr
    rw [← Nat.mul_comm, ← Nat.pow_succ] at this
    exact this

theorem heap3 (w : World) (o1 o2 o3 : Obj) : (((w.alloc o1).alloc o2).alloc o3).heap[w.heap.size]? = some o1 ∧ (((w.alloc o1).alloc o2).alloc o3).heap[w.heap.size + 1]? = some o2 ∧
    (((w.alloc o1).alloc o2).alloc o3).heap[w.heap.size + 1 + 1]? = some o3 ∧ (((w.alloc o1).alloc o2).alloc o3).heap.size = w.heap.size + 3 := by
  refine ⟨?_, ?_, ?_, by simp⟩
  · rw [Below.heap_alloc _ _ _ (by simp; omega), Below.heap_alloc _ _ _ (by simp)]; exact heap_alloc_new w o1
  · rw [Below.heap_alloc _ _ _ (by simp)]
    have := heap_alloc_new (w.alloc o1) o2
    simpa using this
  · have := heap_alloc_new ((w.alloc o1).alloc o2) o3
    simpa using this

/-- What Build leaves: the diagram of a table of sixteen bits. -/
def BuildPost (X : Nat → Prop) (a most : Nat) (W : World) (ns : List Nd) (bits : Nat) (e : Ending) (W' : World) : Prop :=
  ∃ ns' k, e = .returned (.int .i64 (k : Nat)) ∧ Built ns 4 0 (fun i => bits.testBit i) ns' k ∧ Ar W' X a ns' most ∧ Keep X W W'

set_option maxRecDepth 100000 in
theorem build_any {w : World} {X : Nat → Prop} {a : Nat} {ns : List Nd} {most : Nat} (h : Ar w X a ns most) (bits : Nat) (hbits : bits < 65536) (hroom : ns.length + 15 ≤ most) :
    Calls Tryd.prog 22 #[.pointer (some ⟨a, 0, none⟩), .int .u16 bits] w (BuildPost X a most w ns bits) := by
  have H := Lib.hid h
  clear h
  go_enter Tryd.func22, Tryd.ntmps22
  go_wp2_with fail
  have hb3 := below_alloc (below_alloc (below_alloc (Below.refl w.heap.size w) (.cells #[.pointer (some ⟨a, 0, none⟩)] 24)) (.cells #[.int .u16 bits] 49)) (.cells #[.func (.func 36) #[] #[.pointer (some ⟨w.heap.size + 1, 0, none⟩), .pointer (some ⟨w.heap.size + 1 + 1, 0, none⟩), .pointer (some ⟨w.heap.size, 0, none⟩)]] 67)
  have h3 := heap3 w (.cells #[.pointer (some ⟨a, 0, none⟩)] 24) (.cells #[.int .u16 bits] 49) (.cells #[.func (.func 36) #[] #[.pointer (some ⟨w.heap.size + 1, 0, none⟩), .pointer (some ⟨w.heap.size + 1 + 1, 0, none⟩), .pointer (some ⟨w.heap.size, 0, none⟩)]] 67)
  have hA := H.out.below_more hb3
  go_outline
  generalize (((w.alloc (.cells #[.pointer (some ⟨a, 0, none⟩)] 24)).alloc (.cells #[.int .u16 bits] 49)).alloc (.cells #[.func (.func 36) #[] #[.pointer (some ⟨w.heap.size + 1, 0, none⟩), .pointer (some ⟨w.heap.size + 1 + 1, 0, none⟩), .pointer (some ⟨w.heap.size, 0, none⟩)]] 67)) = W at *
  obtain ⟨e1, e2, e3, e4⟩ := h3
  have hB : BBox W (fun k => X k ∨ w.heap.size ≤ k ∧ k < W.heap.size) a (w.heap.size + 1) (w.heap.size + 1 + 1) w.heap.size bits := ⟨e2, e3, e1, by rw [e4]; omega, by rw [e4]; omega, by rw [e4]; omega⟩
  refine (into_any hbits 4 0 0 W ns rfl (by decide) hA hB (by simp; omega)).mono ?_
  rintro e w1 ⟨ns', k, rfl, hb, hA1, hk1⟩
  have P := Lib.hid (And.intro hb (And.intro (hA1.mono fun _ hk => .inl hk) ((Keep.below hb3).trans (hk1.mono fun _ hk => .inl hk))))
  clear hb hA1 hk1 hB hA hb3 e1 e2 e3 e4
  go_wp2_with fail
  go_ret
  refine ⟨ns', k, rfl, ?_, P.out.2.1, P.out.2.2⟩
  have := P.out.1
  simpa using this
end Go.Proofs.YtbceacihkdmgkaaDoor
