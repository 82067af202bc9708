import Derived.Test.YtbbgiockmblamaaEq
set_option linter.unusedVariables false
namespace Go.Proofs.Ytbbgiockmblamaa
open Go.RowKit Mq

/-! ### two clauses are the same -/
theorem eq_pfx (w : World) (d : Nat) (x0 y0 x1 y1 : Int) : (Op.equalIn (d + 2) 28 (.agg #[.int .u32 x0, .int .i64 x1]) (.agg #[.int .u32 y0, .int .i64 y1])).run Try.prog w = .ok (x0 == y0 && (x1 == y1)) w := by
  refine ef_of Try.underlying28 (by kernel_rfl) ?_
  refine ef_cons (by rfl) (by go_simp; rfl) (by go_simp; rfl) (by go_simp) ?_
  exact ef_last (by rfl) (by go_simp; rfl) (by go_simp; rfl) (by go_simp)
theorem eq_clause (w : World) (d : Nat) (a f : Bool) (x1 x2 x3 x4 x6 x7 x8 x9 : Int) : (Op.equalIn (d + 3) 35 (.agg #[.bool a, .int .u32 x1, .int .i64 x2, .int .u8 x3, .int .u8 x4, .bool f, .int .u8 x6, .int .u8 x7, .int .i64 x8, .int .i64 x9]) (.agg #[.bool a, .int .u32 x1, .int .i64 x2, .int .u8 x3, .int .u8 x4, .bool f, .int .u8 x6, .int .u8 x7, .int .i64 x8, .int .i64 x9])).run Try.prog w = .ok true w := by
  have h : (Op.equalIn (d + 3) 35 (.agg #[.bool a, .int .u32 x1, .int .i64 x2, .int .u8 x3, .int .u8 x4, .bool f, .int .u8 x6, .int .u8 x7, .int .i64 x8, .int .i64 x9]) (.agg #[.bool a, .int .u32 x1, .int .i64 x2, .int .u8 x3, .int .u8 x4, .bool f, .int .u8 x6, .int .u8 x7, .int .i64 x8, .int .i64 x9])).run Try.prog w = .ok ((a == a) && ((x1 == x1 && (x2 == x2)) && ((x3 == x3) && ((x4 == x4) && ((f == f) && ((x6 == x6) && ((x7 == x7) && ((x8 == x8) && (x9 == x9))))))))) w := by
    refine ef_of Try.underlying35 (by kernel_rfl) ?_
    refine ef_cons (by rfl) (by go_simp; rfl) (by go_simp; rfl) (by go_simp) ?_
    refine ef_cons (a := .agg #[.int .u32 x1, .int .i64 x2]) (b := .agg #[.int .u32 x1, .int .i64 x2]) (by rfl) (by go_simp; try rfl) (by go_simp; try rfl) (eq_pfx w d x1 x1 x2 x2) ?_
    refine ef_cons (by rfl) (by go_simp; rfl) (by go_simp; rfl) (by go_simp) ?_
    refine ef_cons (by rfl) (by go_simp; rfl) (by go_simp; rfl) (by go_simp) ?_
    refine ef_cons (by rfl) (by go_simp; rfl) (by go_simp; rfl) (by go_simp) ?_
    refine ef_cons (by rfl) (by go_simp; rfl) (by go_simp; rfl) (by go_simp) ?_
    refine ef_cons (by rfl) (by go_simp; rfl) (by go_simp; rfl) (by go_simp) ?_
    refine ef_cons (by rfl) (by go_simp; rfl) (by go_simp; rfl) (by go_simp) ?_
    exact ef_last (by rfl) (by go_simp; rfl) (by go_simp; rfl) (by go_simp)
  rw [h]; simp
end Go.Proofs.Ytbbgiockmblamaa
