import Derived.Test.YteciceelinbfoaaDoorCr2
set_option linter.unusedVariables false
namespace Go.Proofs.YteciceelinbfoaaDoor
open Go.RowKit Mq

def okm (ms : List ByteArray) (x : LkV) : Bool := !(!(x.imp.toList.isEmpty) && !(ms.any fun s => decide (s = x.imp))) && !(!(x.exp.toList.isEmpty) && !(ms.any fun s => decide (s = x.exp)))
def nmd1 (nm : ByteArray) (x : LkV) : Bool := (x.imp.toList == nm.toList) || (x.exp.toList == nm.toList)
/-- Is there a link that names a map? -/
def nmd (rs : List RtV) (nm : ByteArray) : Bool := rs.any fun r => r.links.l.any (nmd1 nm)
def bareR (r : RtV) : RtV := ⟨r.name, r.nets, ⟨none, 0, []⟩, ⟨none, 0, []⟩, 0⟩
def Says (b : Bool) (o : Option (Int × Int)) : Prop := (b = true → o = none) ∧ (b = false → ∃ q, o = some (3, q))
theorem linkBad_less {rts : List RtV} {ms : List ByteArray} {me : ByteArray} : ∀ {ls : List LkV} {seen : List ByteArray},
    (∀ x ∈ ls, ∃ p, routerL rts x.peer = some p ∧ x.peer ≠ me ∧ (peerL p.links.l me).isSome = true) →
    (∀ x ∈ ls, x.peer ∉ seen) → (ls.map (·.peer)).Pairwise (· ≠ ·) → Says (ls.all (okm ms)) (linkBad rts ms me seen ls)
  | [], _, _, _, _ => ⟨fun _ => rfl, fun h => by simp at h⟩
  | l :: ls, seen, h, h1, h2 => by
    obtain ⟨p, hp, hme, hb⟩ := h l (by simp)
    have hg : (!(rts.any fun r => decide (r.name = l.peer)) || (l.peer.toList == me.toList) || (!(l.imp.toList.isEmpty) && !(ms.any fun s => decide (s = l.imp))) || (!(l.exp.toList.isEmpty) && !(ms.any fun s => decide (s = l.exp)))) = !(okm ms l) := by
      rw [← routerL_some, hp, ba_toList, decide_eq_false hme]
      unfold okm
      generalize (!(l.imp.toList.isEmpty) && !(ms.any fun s => decide (s = l.imp))) = a
      generalize (!(l.exp.toList.isEmpty) && !(ms.any fun s => decide (s = l.exp))) = b
      cases a <;> cases b <;> rfl
    rw [linkBad, hg]
    cases hk : okm ms l with
    | false =>
      rw [if_pos (by simp)]
      exact ⟨fun ha => by simp [hk] at ha, fun _ => ⟨l.at_, rfl⟩⟩
    | true =>
      rw [List.map_cons, List.pairwise_cons] at h2
      have ih := linkBad_less (ms := ms) (ls := ls) (seen := seen ++ [l.peer]) (fun x hx => h x (by simp [hx])) (fun x hx => by
        rw [List.mem_append, List.mem_singleton]
        rintro (h3 | h3)
        · exact h1 x (by simp [hx]) h3
        · exact h2.1 _ (List.mem_map.2 ⟨x, hx, rfl⟩) h3.symm) h2.2
      have hs : (seen.any fun s => decide (s = l.peer)) = false := by
        rw [Bool.eq_false_iff]
        intro h3
        obtain ⟨s, hs, hse⟩ := List.any_eq_true.1 h3
        simp only [decide_eq_true_eq] at hse
        exact h1 l (by simp) (hse ▸ hs)
      rw [if_neg (by simp), hs, if_neg (by simp), ← routerL_eq, hp, List.all_cons, hk, Bool.true_and]
      simp only [hb, if_true]
      exact ih
theorem rtsBad_less {rts : List RtV} {ms : List ByteArray} : ∀ {rs : List RtV}, (∀ r ∈ rs, Says (r.links.l.all (okm ms)) (rtBad rts ms r)) →
    Says (rs.all (fun r => r.links.l.all (okm ms))) (rtsBad rts ms rs)
  | [], _ => ⟨fun _ => rfl, fun h => by simp at h⟩
  | r :: rs, h => by
    have h1 := h r (by simp)
    have h2 := rtsBad_less (rs := rs) fun r hr => h r (by simp [hr])
    rw [List.all_cons, rtsBad]
    cases hk : r.links.l.all (okm ms) with
    | true =>
      rw [h1.1 hk, Option.none_or, Bool.true_and]
      exact h2
    | false =>
      obtain ⟨q, hq⟩ := h1.2 hk
      rw [hq]
      exact ⟨fun h => by simp at h, fun _ => ⟨q, rfl⟩⟩
theorem ms_less {M k : Nat} (hk : k < M) (hM : M ≤ 4) {x : ByteArray} (hx : ∃ a, x = smapL M a) :
    (!(!(x.toList.isEmpty) && !((((List.range M).map mname).take k ++ ((List.range M).map mname).drop (k + 1)).any fun s => decide (s = x)))) = !(x.toList == (mname k).toList) := by
  obtain ⟨a, rfl⟩ := hx
  unfold smapL
  split
  · have h1 : (⟨#[]⟩ : ByteArray).toList.isEmpty = true := by simp [ByteArray.toList_eq]
    have h2 : ((⟨#[]⟩ : ByteArray).toList == (mname k).toList) = false := by simp [ByteArray.toList_eq, mname]
    rw [h1, h2]; rfl
  · rename_i h
    obtain ⟨b, hb⟩ : ∃ b, b = a / 3 % M := ⟨_, rfl⟩
    have hbM : b < M := by rw [hb]; exact Nat.mod_lt _ (by omega)
    rw [← hb]
    have h1 : (mname b).toList.isEmpty = false := by simp [ByteArray.toList_eq, mname]
    have h2 : ((mname b).toList == (mname k).toList) = decide (mname b = mname k) := ba_toList _ _
    rw [h1, h2, Bool.not_false, Bool.true_and, Bool.not_not, Bool.eq_iff_iff, List.any_eq_true, Bool.not_eq_true', decide_eq_false_iff_not]
    constructor
    · rintro ⟨s, hs, hse⟩ he
      simp only [decide_eq_true_eq] at hse
      subst hse
      have hbk := mname_inj (by omega) (by omega) he
      subst hbk
      rw [List.mem_append] at hs
      rcases hs with hs | hs
      · obtain ⟨i, hi, he2⟩ := List.mem_iff_getElem.1 hs
        simp only [List.length_take, List.length_map, List.length_range] at hi
        simp only [List.getElem_take, List.getElem_map, List.getElem_range] at he2
        have := mname_inj (by omega) (by omega) he2
        omega
      · obtain ⟨i, hi, he2⟩ := List.mem_iff_getElem.1 hs
        simp only [List.length_drop, List.length_map, List.length_range] at hi
        simp only [List.getElem_drop, List.getElem_map, List.getElem_range] at he2
        have := mname_inj (by omega) (by omega) he2
        omega
    · intro hne
      refine ⟨mname b, ?_, by simp⟩
      have hbk : b ≠ k := fun e => hne (by rw [e])
      rw [List.mem_append]
      by_cases hlt : b < k
      · left
        refine List.mem_iff_getElem.2 ⟨b, by simp; omega, by simp⟩
      · right
        refine List.mem_iff_getElem.2 ⟨b - (k + 1), by simp; omega, ?_⟩
        simp only [List.getElem_drop, List.getElem_map, List.getElem_range]
        congr 1
        omega
theorem cfg_parts {s : ShV} {c : CfV} (h : CfSpec s c) : dupL [] (c.rts.l.map fun r => (r.name, r.at_)) = none := by
  show dupL [] (rtN c) = none
  refine dupL_none (fun p hp => by simp) ?_
  have : ((rtN c).map (·.1)).Pairwise (· ≠ ·) := by
    rw [show (rtN c).map (·.1) = c.rts.l.map (·.name) by simp [rtN], rt_names h]
    exact range_pw fun i j hi hj he => rname_inj (by omega) (by omega) he
  rw [List.pairwise_map] at this
  exact this
theorem dup_names {L : List (ByteArray × Int)} {l : List ByteArray} (he : L.map (·.1) = l) (hl : l.Pairwise (· ≠ ·)) : dupL [] L = none := by
  refine dupL_none (fun p hp => by simp) ?_
  rw [← he, List.pairwise_map] at hl
  exact hl
theorem maps_pw {s : ShV} {c : CfV} (h : CfSpec s c) : (c.maps.l.map (·.name)).Pairwise (· ≠ ·) := by
  rw [h.maps]
  exact range_pw fun i j hi hj he => mname_inj (by omega) (by omega) he
theorem nets_one {s : ShV} {n k : Nat} {u : RtV} (hu : RtSpec s n k u) : dupP [] u.nets.l = false := by
  have := hu.nets
  match hn : u.nets.l with
  | [] => rfl
  | [p] => rfl
  | _ :: _ :: _ => rw [hn] at this; simp at this
theorem ways_one {s : ShV} {n k : Nat} {u : RtV} (hu : RtSpec s n k u) : waysBad u.links.l [] u.stats.l = none := by
  rcases hu.stats with hs | ⟨x, hs, y, hy, hv⟩
  · rw [hs]; rfl
  · have hp : (peerL u.links.l x.via).isSome = true := peerL_mem (by rw [hv]; exact List.mem_map.2 ⟨y, hy, rfl⟩)
    rw [hs, waysBad, if_pos hp]; rfl
/-- Without links and ways it is right. -/
theorem bare_right {s : ShV} {c : CfV} (h : CfSpec s c) {A : Option Addr} {cp : Nat} : cfgBad ⟨c.maps, ⟨A, cp, c.rts.l.map bareR⟩⟩ = none := by
  have h1 : dupL [] (mapN ⟨c.maps, ⟨A, cp, c.rts.l.map bareR⟩⟩) = none := dup_names (by simp [mapN]) (maps_pw h)
  have h2 : dupL [] (rtN ⟨c.maps, ⟨A, cp, c.rts.l.map bareR⟩⟩) = none := dup_names (l := (List.range (s.n % 8)).map rname) (by rw [← rt_names h]; simp [rtN, bareR]) (range_pw fun i j hi hj he => rname_inj (by omega) (by omega) he)
  unfold cfgBad
  rw [h1, h2]
  refine rts_right fun r hr => ?_
  obtain ⟨u, hu, rfl⟩ := List.mem_map.1 hr
  obtain ⟨k, hk, he⟩ := List.mem_iff_getElem.1 hu
  have hs := h.rts k u (by rw [← he]; exact List.getElem?_eq_getElem hk)
  unfold rtBad bareR
  rw [show dupP [] u.nets.l = false from nets_one hs]
  rfl
theorem all_eq_mem {α : Type} {p q : α → Bool} : ∀ {l : List α}, (∀ x ∈ l, p x = q x) → l.all p = l.all q
  | [], _ => rfl
  | a :: l, h => by rw [List.all_cons, List.all_cons, h a (by simp), all_eq_mem fun x hx => h x (by simp [hx])]
/-- Whose map goes is right, just if no link names it. -/
theorem less_bad {s : ShV} {c : CfV} (h : CfSpec s c) {k : Nat} {m : MpV} (hm : c.maps.l[k]? = some m) {A : Option Addr} {cp : Nat} :
    Says (!(nmd c.rts.l m.name)) (cfgBad ⟨⟨A, cp, c.maps.l.take k ++ c.maps.l.drop (k + 1)⟩, c.rts⟩) := by
  obtain ⟨M, hM⟩ : ∃ M, M = min s.maps.l.length 4 := ⟨_, rfl⟩
  have hmaps := h.maps
  rw [← hM] at hmaps
  have hlen : c.maps.l.length = M := by have := congrArg List.length hmaps; simpa using this
  have hkM : k < M := by rw [← hlen]; exact (List.getElem?_eq_some_iff.1 hm).1
  have hmn : m.name = mname k := by
    have h1 : (c.maps.l.map (·.name))[k]? = some m.name := by rw [List.getElem?_map, hm]; rfl
    rw [hmaps, List.getElem?_map, List.getElem?_range hkM] at h1
    simpa using h1.symm
  have h1 : dupL [] (mapN ⟨⟨A, cp, c.maps.l.take k ++ c.maps.l.drop (k + 1)⟩, c.rts⟩) = none := by
    refine dup_names (l := (c.maps.l.take k ++ c.maps.l.drop (k + 1)).map (·.name)) (by simp [mapN, Function.comp_def]) (List.Pairwise.sublist ?_ (maps_pw h))
    refine List.Sublist.map _ ?_
    have : c.maps.l.take k ++ c.maps.l.drop (k + 1) = c.maps.l.eraseIdx k := (List.eraseIdx_eq_take_drop_succ _ _).symm
    rw [this]
    exact List.eraseIdx_sublist _ _
  have h2 : dupL [] (rtN ⟨⟨A, cp, c.maps.l.take k ++ c.maps.l.drop (k + 1)⟩, c.rts⟩) = none := by
    have := cfg_parts h
    exact this
  have hms : (c.maps.l.take k ++ c.maps.l.drop (k + 1)).map (·.name) = ((List.range M).map mname).take k ++ ((List.range M).map mname).drop (k + 1) := by
    rw [List.map_append, List.map_take, List.map_drop, hmaps]
  have hok : ∀ r ∈ c.rts.l, ∀ x ∈ r.links.l, okm ((c.maps.l.take k ++ c.maps.l.drop (k + 1)).map (·.name)) x = !(nmd1 m.name x) := by
    intro r hr x hx
    obtain ⟨j, hj, he⟩ := List.mem_iff_getElem.1 hr
    obtain ⟨ha, hb⟩ := (h.rts j r (by rw [← he]; exact List.getElem?_eq_getElem hj)).maps x hx
    rw [← hM] at ha hb
    unfold okm nmd1
    rw [hms, ms_less hkM (by omega) ha, ms_less hkM (by omega) hb, hmn]
    simp
  have hall : c.rts.l.all (fun r => r.links.l.all (okm ((c.maps.l.take k ++ c.maps.l.drop (k + 1)).map (·.name)))) = !(nmd c.rts.l m.name) := by
    unfold nmd
    rw [List.not_any_eq_all_not]
    refine all_eq_mem fun r hr => ?_
    rw [List.not_any_eq_all_not]
    exact all_eq_mem fun x hx => hok r hr x hx
  have hr := rtsBad_less (rts := c.rts.l) (ms := (c.maps.l.take k ++ c.maps.l.drop (k + 1)).map (·.name)) (rs := c.rts.l) (by
    intro r hr
    obtain ⟨j, hj, he⟩ := List.mem_iff_getElem.1 hr
    have hs := h.rts j r (by rw [← he]; exact List.getElem?_eq_getElem hj)
    have hj8 : j < s.n % 8 := by rw [← h.len]; exact hj
    have hl := linkBad_less (rts := c.rts.l) (ms := (c.maps.l.take k ++ c.maps.l.drop (k + 1)).map (·.name)) (me := r.name) (ls := r.links.l) (seen := []) (fun x hx => by
      obtain ⟨i, hi, hc, hx2⟩ := peers_mem (by rw [← hs.peers]; exact List.mem_map.2 ⟨x, hx, rfl⟩ : x.peer ∈ peersL s (s.n % 8) j (s.n % 8))
      obtain ⟨p, hp, hps⟩ := router_at h hi
      refine ⟨p, by rw [hx2]; exact hp, ?_, ?_⟩
      · rw [hx2, hs.name]
        intro hh
        exact conn_ne hc (rname_inj (by omega) (by omega) hh)
      · refine peerL_mem ?_
        rw [hps.peers, hs.name]
        exact mem_peers hj8 (by rw [conn_symm]; exact hc)) (fun x hx => by simp) (by rw [hs.peers]; exact peers_pw (by omega))
    unfold rtBad
    rw [nets_one hs, ways_one hs]
    refine ⟨fun ha => ?_, fun ha => ?_⟩
    · rw [hl.1 ha]; rfl
    · obtain ⟨q, hq⟩ := hl.2 ha
      exact ⟨q, by rw [hq]; rfl⟩)
  rw [hall] at hr
  unfold cfgBad
  rw [h1, h2]
  exact hr
theorem less_ok {w : World} {c : CfV} {l1 l2 : List MpV} {A : Option Addr} {cp base : Nat} (h : w.ownsRow base 57 3 (.slice A (l1.length + l2.length) cp) (l1.length + l2.length) (l1.flatMap mpc ++ l2.flatMap mpc)) (hc : CfOk w c) : CfOk w ⟨⟨A, cp, l1 ++ l2⟩, c.rts⟩ :=
  ⟨own_slok (by simpa using h) mpc_len (by omega) (fun _ _ => trivial), hc.rts⟩
theorem less_config {w : World} {c : CfV} {l1 l2 : List MpV} {A : Option Addr} {cp base : Nat} (h : w.ownsRow base 57 3 (.slice A (l1.length + l2.length) cp) (l1.length + l2.length) (l1.flatMap mpc ++ l2.flatMap mpc)) (hc : CfOk w c) :
    Calls Tryd.prog 9 #[.agg #[.slice A (l1.length + l2.length) cp, .slice c.rts.A c.rts.l.length c.rts.cap]] w
      fun e w' => e = .returned (errP (cfgBad ⟨⟨A, cp, l1 ++ l2⟩, c.rts⟩)) ∧ Below w.heap.size w w' := by
  have := config_any ⟨⟨A, cp, l1 ++ l2⟩, c.rts⟩ w (less_ok h hc)
  rw [List.length_append] at this
  exact this
end Go.Proofs.YteciceelinbfoaaDoor
