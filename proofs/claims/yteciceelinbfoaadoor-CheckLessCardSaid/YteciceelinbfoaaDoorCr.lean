import Derived.Test.YteciceelinbfoaaDoorSh0
set_option linter.unusedVariables false
namespace Go.Proofs.YteciceelinbfoaaDoor
open Go.RowKit Mq

theorem rname_inj {i j : Nat} (hi : i < 8) (hj : j < 8) (h : rname i = rname j) : i = j := by
  unfold rname at h
  injection h with h
  simp only [Array.mk.injEq, List.cons.injEq, and_true, true_and] at h
  have := congrArg UInt8.toNat h
  simp at this
  omega
theorem mname_inj {i j : Nat} (hi : i < 8) (hj : j < 8) (h : mname i = mname j) : i = j := by
  unfold mname at h
  injection h with h
  simp only [Array.mk.injEq, List.cons.injEq, and_true, true_and] at h
  have := congrArg UInt8.toNat h
  simp at this
  omega
theorem dupL_none : ∀ {l : List (ByteArray × Int)} {seen : List ByteArray}, (∀ p ∈ l, p.1 ∉ seen) → l.Pairwise (fun p q => p.1 ≠ q.1) → dupL seen l = none
  | [], _, _, _ => rfl
  | p :: l, seen, h1, h2 => by
    rw [dupL, if_neg]
    · rw [List.pairwise_cons] at h2
      refine dupL_none (fun q hq => ?_) h2.2
      rw [List.mem_append, List.mem_singleton]
      rintro (h | h)
      · exact h1 q (by simp [hq]) h
      · exact h2.1 q hq h.symm
    · intro h
      obtain ⟨s, hs, he⟩ := List.any_eq_true.1 h
      simp only [decide_eq_true_eq] at he
      exact h1 p (by simp) (he ▸ hs)
theorem range_pw {f : Nat → ByteArray} {m : Nat} (hf : ∀ i j, i < m → j < m → f i = f j → i = j) : ((List.range m).map f).Pairwise (· ≠ ·) := by
  rw [List.pairwise_map]
  refine List.Pairwise.imp_of_mem ?_ List.pairwise_lt_range
  intro i j hi hj hij he
  have := hf i j (List.mem_range.1 hi) (List.mem_range.1 hj) he
  omega
theorem linkBad_none {rts : List RtV} {ms : List ByteArray} {me : ByteArray} : ∀ {ls : List LkV} {seen : List ByteArray},
    (∀ x ∈ ls, ∃ p, routerL rts x.peer = some p ∧ x.peer ≠ me ∧ (x.imp.toList.isEmpty = true ∨ x.imp ∈ ms) ∧ (x.exp.toList.isEmpty = true ∨ x.exp ∈ ms) ∧ (peerL p.links.l me).isSome = true) →
    (∀ x ∈ ls, x.peer ∉ seen) → (ls.map (·.peer)).Pairwise (· ≠ ·) → linkBad rts ms me seen ls = none
  | [], _, _, _, _ => rfl
  | l :: ls, seen, h, h1, h2 => by
    obtain ⟨p, hp, hme, hi, he, hb⟩ := h l (by simp)
    have hin : ∀ {x : ByteArray}, (x.toList.isEmpty = true ∨ x ∈ ms) → (!(x.toList.isEmpty) && !(ms.any fun s => decide (s = x))) = false := by
      intro x hx
      rcases hx with hx | hx
      · rw [hx]; rfl
      · have : (ms.any fun s => decide (s = x)) = true := List.any_eq_true.2 ⟨x, hx, by simp⟩
        rw [this]; simp
    rw [linkBad, if_neg, if_neg, ← routerL_eq, hp]
    · simp only [hb, if_true]
      rw [List.map_cons, List.pairwise_cons] at h2
      refine linkBad_none (fun x hx => h x (by simp [hx])) (fun x hx => ?_) h2.2
      rw [List.mem_append, List.mem_singleton]
      rintro (h3 | h3)
      · exact h1 x (by simp [hx]) h3
      · exact h2.1 _ (List.mem_map.2 ⟨x, hx, rfl⟩) h3.symm
    · intro h3
      obtain ⟨s, hs, hse⟩ := List.any_eq_true.1 h3
      simp only [decide_eq_true_eq] at hse
      exact h1 l (by simp) (hse ▸ hs)
    · rw [← routerL_some, hp, ba_toList, decide_eq_false hme, hin hi, hin he]
      simp
end Go.Proofs.YteciceelinbfoaaDoor
