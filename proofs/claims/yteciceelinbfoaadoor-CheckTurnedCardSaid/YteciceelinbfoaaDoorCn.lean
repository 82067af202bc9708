import Derived.Test.YteciceelinbfoaaDoorCk
import Derived.Test.YteciceelinbfoaaDoorMp
import Derived.ChangeKeysEq
set_option linter.unusedVariables false
namespace Mq
open Go
theorem ba_beq (x y : ByteArray) : (x == y) = decide (x = y) := by
  rw [Bool.eq_iff_iff, decide_eq_true_iff]
  obtain ⟨x⟩ := x
  obtain ⟨y⟩ := y
  show (x == y) = true ↔ _
  simp
theorem ba_toList (x y : ByteArray) : (x.toList == y.toList) = decide (x = y) := by
  rw [Bool.eq_iff_iff, decide_eq_true_iff]
  obtain ⟨x⟩ := x
  obtain ⟨y⟩ := y
  simp [ByteArray.toList_eq, Array.toList_inj]
/-- The place of the first that is there twice. -/
def dupL (seen : List ByteArray) : List (ByteArray × Int) → Option Int
  | [] => none
  | p :: l => if seen.any (fun s => decide (s = p.1)) then some p.2 else dupL (seen ++ [p.1]) l
end Mq
namespace Go.Proofs.YteciceelinbfoaaDoor
open Go.RowKit Mq

theorem keyT_str {P : Program} {kt : TypeId} (hd : P.underlying kt = some .string) : KeyT (fun x : ByteArray => Value.string x) P kt :=
  KeyT.of_now hd (fun x => by simp [MapKept.IsKey]) (fun x y => by simp only [Instr.sameNow]; rw [ba_beq])
structure MpV where
  name : ByteArray
  cls : Option Addr × Nat × Nat
  at_ : Int
def mpc (m : MpV) : List Value := [.string m.name, .slice m.cls.1 m.cls.2.1 m.cls.2.2, .int .i64 m.at_]
def rtc (r : RtV) : List Value := [.string r.name, .slice r.nets.A r.nets.l.length r.nets.cap, .slice r.links.A r.links.l.length r.links.cap, .slice r.stats.A r.stats.l.length r.stats.cap, .int .i64 r.at_]
structure CfV where
  maps : SlV MpV
  rts : SlV RtV
theorem mps_get {w : World} {B : Nat} {A : Option Addr} {es : List MpV} (h : Sli mpc 3 w B A es) {k : Nat} {e : MpV} (hk : es[k]? = some e) :
    ∃ b off, A = some ⟨b, off, none⟩ ∧ b < B ∧ w.cell? ⟨b, off + k * 3, none⟩ = some (.string e.name) ∧ w.cell? ⟨b, off + k * 3 + 1, none⟩ = some (.slice e.cls.1 e.cls.2.1 e.cls.2.2) ∧ w.cell? ⟨b, off + k * 3 + 2, none⟩ = some (.int .i64 e.at_) := by
  obtain ⟨b, off, hA, hB, hc⟩ := h (by have := (List.getElem?_eq_some_iff.1 hk).1; omega)
  exact ⟨b, off, hA, hB, hc k e hk 0 (by omega), hc k e hk 1 (by omega), hc k e hk 2 (by omega)⟩
theorem rts_get {w : World} {B : Nat} {A : Option Addr} {es : List RtV} (h : Sli rtc 5 w B A es) {k : Nat} {e : RtV} (hk : es[k]? = some e) :
    ∃ b off, A = some ⟨b, off, none⟩ ∧ b < B ∧ w.cell? ⟨b, off + k * 5, none⟩ = some (.string e.name) ∧ w.cell? ⟨b, off + k * 5 + 1, none⟩ = some (.slice e.nets.A e.nets.l.length e.nets.cap) ∧ w.cell? ⟨b, off + k * 5 + 2, none⟩ = some (.slice e.links.A e.links.l.length e.links.cap) ∧ w.cell? ⟨b, off + k * 5 + 3, none⟩ = some (.slice e.stats.A e.stats.l.length e.stats.cap) ∧ w.cell? ⟨b, off + k * 5 + 4, none⟩ = some (.int .i64 e.at_) := by
  obtain ⟨b, off, hA, hB, hc⟩ := h (by have := (List.getElem?_eq_some_iff.1 hk).1; omega)
  exact ⟨b, off, hA, hB, hc k e hk 0 (by omega), hc k e hk 1 (by omega), hc k e hk 2 (by omega), hc k e hk 3 (by omega), hc k e hk 4 (by omega)⟩
theorem smap_info : Tryd.prog.underlying 59 = some (.map 9 4) := by kernel_rfl
theorem imap_info : Tryd.prog.underlying 60 = some (.map 9 3) := by kernel_rfl
abbrev sbObj (L : List (ByteArray × Bool)) : Obj := mapObj (fun x : ByteArray => Value.string x) (fun b : Bool => Value.bool b) L
abbrev siObj (L : List (ByteArray × Int)) : Obj := mapObj (fun x : ByteArray => Value.string x) (fun b : Int => Value.int .i64 b) L
theorem sb_look (w : World) {b : Nat} {L : List (ByteArray × Bool)} (hb : w.heap[b]? = some (sbObj L)) (x : ByteArray) :
    (Instr.lookup 59 (.map (some b)) (.string x) false).run Tryd.prog w = .ok (.bool ((Mq.look x L).getD false)) w := by
  have := run_look (keyT_str (P := Tryd.prog) (kt := 9) Tryd.underlying9) (encv := fun b : Bool => Value.bool b) smap_info (z := false) (fun w => by kernel_rfl) w hb x false
  simpa using this
theorem si_look (w : World) {b : Nat} {L : List (ByteArray × Int)} (hb : w.heap[b]? = some (siObj L)) (x : ByteArray) :
    (Instr.lookup 60 (.map (some b)) (.string x) true).run Tryd.prog w = .ok (.tuple #[.int .i64 ((Mq.look x L).getD 0), .bool (Mq.look x L).isSome]) w := by
  have := run_look (keyT_str (P := Tryd.prog) (kt := 9) Tryd.underlying9) (encv := fun b : Int => Value.int .i64 b) imap_info (z := 0) (fun w => by kernel_rfl) w hb x true
  simpa using this
end Go.Proofs.YteciceelinbfoaaDoor
