import Derived.Test.YteciceelinbfoaaDoorCr2
set_option linter.unusedVariables false
namespace Go.Proofs.YteciceelinbfoaaDoor
open Go.RowKit Mq

def lkv (x : LkV) : Value := .agg #[.string x.peer, .int .i64 x.cost, .string x.imp, .string x.exp, .int .i64 x.at_]
theorem eq_lk (w : World) (d : Nat) (x : LkV) : (Op.equalIn (d + 2) 50 (lkv x) (lkv x)).run Tryd.prog w = .ok true w := by
  unfold lkv
  refine eqA_of Tryd.underlying50 (by kernel_rfl) ?_
  refine eqf_cons (r := true) (s := true) (by rfl) (by go_simp; rfl) (by go_simp; rfl) (by go_simp) ?_
  refine eqf_cons (r := true) (s := true) (by rfl) (by go_simp; rfl) (by go_simp; rfl) (by go_simp) ?_
  refine eqf_cons (r := true) (s := true) (by rfl) (by go_simp; rfl) (by go_simp; rfl) (by go_simp) ?_
  refine eqf_cons (r := true) (s := true) (by rfl) (by go_simp; rfl) (by go_simp; rfl) (by go_simp) ?_
  exact eqf_last (by rfl) (by go_simp; rfl) (by go_simp; rfl) (by go_simp)
theorem peer_take {l : List LkV} {nm : ByteArray} {i : Nat} {x : LkV} (hk : l[i]? = some x) : peerL (l.take (i + 1)) nm = (peerL (l.take i) nm).or (if x.peer.toList == nm.toList then some x else none) := by
  unfold peerL
  rw [List.take_add_one, hk, List.find?_append]
  congr 1
  simp only [List.find?, Option.toList]
  cases hq : (x.peer.toList == nm.toList) <;> simp
theorem field_cfg (w : World) (A A' : Option Addr) (n n' c c' : Nat) : (Instr.field 33 (.agg #[.slice A n c, .slice A' n' c']) 1).run Tryd.prog w = .ok (.slice A' n' c') w := by
  first | kernel_rfl | rfl | (unfold Instr.field; go_simp; rfl)
end Go.Proofs.YteciceelinbfoaaDoor
