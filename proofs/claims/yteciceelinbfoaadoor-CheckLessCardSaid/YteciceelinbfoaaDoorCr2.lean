import Derived.Test.YteciceelinbfoaaDoorCr
import Derived.Test.YteciceelinbfoaaDoorSh2
set_option linter.unusedVariables false
namespace Go.Proofs.YteciceelinbfoaaDoor
open Go.RowKit Mq

theorem conn_symm (s : ShV) (n k j : Nat) : conn s n k j = conn s n j k := by
  unfold conn
  rw [Nat.min_comm j k, Nat.max_comm j k, Bool.eq_iff_iff]
  simp only [Bool.and_eq_true, Bool.or_eq_true, bne_iff_ne, ne_eq, decide_eq_true_eq, beq_iff_eq]
  omega
theorem conn_ne {s : ShV} {n k j : Nat} (h : conn s n k j = true) : j ≠ k := by
  unfold conn at h
  simp only [Bool.and_eq_true, bne_iff_ne, ne_eq] at h
  exact h.1
theorem rt_names {s : ShV} {c : CfV} (h : CfSpec s c) : c.rts.l.map (·.name) = (List.range (s.n % 8)).map rname := by
  refine List.ext_getElem (by simp [h.len]) fun i h1 h2 => ?_
  simp only [List.length_map] at h1
  have := (h.rts i c.rts.l[i] (List.getElem?_eq_getElem h1)).name
  simpa using this
theorem router_at {s : ShV} {c : CfV} (h : CfSpec s c) {j : Nat} (hj : j < s.n % 8) : ∃ p, routerL c.rts.l (rname j) = some p ∧ RtSpec s (s.n % 8) j p := by
  have hl : j < c.rts.l.length := by rw [h.len]; exact hj
  refine ⟨c.rts.l[j], ?_, h.rts j _ (List.getElem?_eq_getElem hl)⟩
  rw [routerL_eq, List.find?_eq_some_iff_getElem]
  refine ⟨by simpa using (h.rts j _ (List.getElem?_eq_getElem hl)).name, j, hl, rfl, fun i hi => ?_⟩
  have hn := (h.rts i c.rts.l[i] (List.getElem?_eq_getElem (by omega))).name
  simp only [Bool.not_eq_true', decide_eq_false_iff_not, hn]
  intro he
  have := rname_inj (by omega) (by omega) he
  omega
theorem peers_mem {s : ShV} {n k j : Nat} {x : ByteArray} (h : x ∈ peersL s n k j) : ∃ i, i < j ∧ conn s n k i = true ∧ x = rname i := by
  unfold peersL at h
  obtain ⟨i, hi, rfl⟩ := List.mem_map.1 h
  obtain ⟨h1, h2⟩ := List.mem_filter.1 hi
  exact ⟨i, List.mem_range.1 h1, h2, rfl⟩
theorem mem_peers {s : ShV} {n k j i : Nat} (h : i < j) (hc : conn s n k i = true) : rname i ∈ peersL s n k j :=
  List.mem_map.2 ⟨i, List.mem_filter.2 ⟨List.mem_range.2 h, hc⟩, rfl⟩
theorem peers_pw {s : ShV} {n k j : Nat} (hj : j ≤ 8) : (peersL s n k j).Pairwise (· ≠ ·) := by
  unfold peersL
  rw [List.pairwise_map]
  refine List.Pairwise.imp_of_mem ?_ (List.Pairwise.filter _ List.pairwise_lt_range)
  intro a b ha hb hab he
  have h1 := List.mem_range.1 (List.mem_filter.1 ha).1
  have h2 := List.mem_range.1 (List.mem_filter.1 hb).1
  have := rname_inj (by omega) (by omega) he
  omega
theorem peerL_mem {ls : List LkV} {nm : ByteArray} (h : nm ∈ ls.map (·.peer)) : (peerL ls nm).isSome = true := by
  rw [peerL_some]
  obtain ⟨x, hx, rfl⟩ := List.mem_map.1 h
  exact List.any_eq_true.2 ⟨x, hx, by simp⟩
theorem smapL_in {M a : Nat} (hM : M ≤ 4) : (smapL M a).toList.isEmpty = true ∨ smapL M a ∈ (List.range M).map mname := by
  unfold smapL
  split
  · left; simp [ByteArray.toList_eq]
  · rename_i h
    right
    exact List.mem_map.2 ⟨a / 3 % M, List.mem_range.2 (Nat.mod_lt _ (by omega)), rfl⟩
/-- What is wrong of one router of a shape's configuration: nothing. -/
theorem rt_right {s : ShV} {c : CfV} (h : CfSpec s c) {k : Nat} {u : RtV} (hk : k < s.n % 8) (hu : RtSpec s (s.n % 8) k u) : rtBad c.rts.l (c.maps.l.map (·.name)) u = none := by
  have hd : dupP [] u.nets.l = false := by
    have := hu.nets
    match hn : u.nets.l with
    | [] => rfl
    | [p] => rfl
    | _ :: _ :: _ => rw [hn] at this; simp at this
  have hl : linkBad c.rts.l (c.maps.l.map (·.name)) u.name [] u.links.l = none := by
    refine linkBad_none (fun x hx => ?_) (fun x hx => by simp) (by rw [hu.peers]; exact peers_pw (by omega))
    obtain ⟨j, hj, hc, he⟩ := peers_mem (by rw [← hu.peers]; exact List.mem_map.2 ⟨x, hx, rfl⟩ : x.peer ∈ peersL s (s.n % 8) k (s.n % 8))
    obtain ⟨p, hp, hps⟩ := router_at h hj
    obtain ⟨⟨a, ha⟩, ⟨b, hb⟩⟩ := hu.maps x hx
    refine ⟨p, by rw [he]; exact hp, ?_, by rw [ha, h.maps]; exact smapL_in (by omega), by rw [hb, h.maps]; exact smapL_in (by omega), ?_⟩
    · rw [he, hu.name]
      intro hh
      exact conn_ne hc (rname_inj (by omega) (by omega) hh)
    · refine peerL_mem ?_
      rw [hps.peers, hu.name]
      exact mem_peers hk (by rw [conn_symm]; exact hc)
  have hw : waysBad u.links.l [] u.stats.l = none := by
    rcases hu.stats with hs | ⟨x, hs, y, hy, hv⟩
    · rw [hs]; rfl
    · have hp : (peerL u.links.l x.via).isSome = true := peerL_mem (by rw [hv]; exact List.mem_map.2 ⟨y, hy, rfl⟩)
      rw [hs, waysBad, if_pos hp]; rfl
  unfold rtBad
  rw [hd, hl, hw]; rfl
theorem rts_right {rts : List RtV} {ms : List ByteArray} : ∀ {rs : List RtV}, (∀ r ∈ rs, rtBad rts ms r = none) → rtsBad rts ms rs = none
  | [], _ => rfl
  | r :: rs, h => by rw [rtsBad, h r (by simp), rts_right fun r hr => h r (by simp [hr])]; rfl
/-- What numbers make is right. -/
theorem cfg_right {s : ShV} {c : CfV} (h : CfSpec s c) : cfgBad c = none := by
  have h1 : dupL [] (mapN c) = none := by
    refine dupL_none (fun p hp => by simp) ?_
    have : ((mapN c).map (·.1)).Pairwise (· ≠ ·) := by
      rw [show (mapN c).map (·.1) = c.maps.l.map (·.name) by simp [mapN], h.maps]
      exact range_pw fun i j hi hj he => mname_inj (by omega) (by omega) he
    rw [List.pairwise_map] at this
    exact this
  have h2 : dupL [] (rtN c) = none := by
    refine dupL_none (fun p hp => by simp) ?_
    have : ((rtN c).map (·.1)).Pairwise (· ≠ ·) := by
      rw [show (rtN c).map (·.1) = c.rts.l.map (·.name) by simp [rtN], rt_names h]
      exact range_pw fun i j hi hj he => rname_inj (by omega) (by omega) he
    rw [List.pairwise_map] at this
    exact this
  unfold cfgBad
  rw [h1, h2]
  refine rts_right fun r hr => ?_
  obtain ⟨k, hk, he⟩ := List.mem_iff_getElem.1 hr
  exact rt_right h (k := k) (by rw [← h.len]; exact hk) (h.rts k r (by rw [← he]; exact List.getElem?_eq_getElem hk))
end Go.Proofs.YteciceelinbfoaaDoor
