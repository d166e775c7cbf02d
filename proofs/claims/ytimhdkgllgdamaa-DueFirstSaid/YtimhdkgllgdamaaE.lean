/- The methods of *queue behind an interface value: which function, on what. -/
import Derived.Test.YtimhdkgllgdamaaD
namespace Go.Proofs.Ytimhdkgllgdamaa
open Go.RowKit Go.Lib
theorem row_len : (Try.prog.info? 52).map (fun i => (i.methods.find? (·.name == "Len")).map (fun m => (m.path.size, m.func))) = some (some (0, some (26, false))) := by kernel_rfl
theorem row_less : (Try.prog.info? 52).map (fun i => (i.methods.find? (·.name == "Less")).map (fun m => (m.path.size, m.func))) = some (some (0, some (55, false))) := by kernel_rfl
theorem row_swap : (Try.prog.info? 52).map (fun i => (i.methods.find? (·.name == "Swap")).map (fun m => (m.path.size, m.func))) = some (some (0, some (56, false))) := by kernel_rfl
theorem row_pop : (Try.prog.info? 52).map (fun i => (i.methods.find? (·.name == "Pop")).map (fun m => (m.path.size, m.func))) = some (some (0, some (57, true))) := by kernel_rfl
theorem row_push : (Try.prog.info? 52).map (fun i => (i.methods.find? (·.name == "Push")).map (fun m => (m.path.size, m.func))) = some (some (0, some (58, true))) := by kernel_rfl
theorem row_of {name : String} {f : Nat} {p : Bool} (h : (Try.prog.info? 52).map (fun i => (i.methods.find? (·.name == name)).map (fun m => (m.path.size, m.func))) = some (some (0, some (f, p)))) :
    ∃ i m, Try.prog.info? 52 = some i ∧ i.methods.find? (·.name == name) = some m ∧ m.path = #[] ∧ m.func = some (f, p) := by
  cases hi : Try.prog.info? 52 with
  | none => rw [hi] at h; cases h
  | some i =>
    rw [hi] at h
    cases hm : i.methods.find? (·.name == name) with
    | none => simp [hm] at h
    | some m =>
      simp [hm] at h
      exact ⟨i, m, rfl, hm, h.1, h.2⟩
theorem meth_ptr {name : String} {f k : Nat} (h : (Try.prog.info? 52).map (fun i => (i.methods.find? (·.name == name)).map (fun m => (m.path.size, m.func))) = some (some (0, some (f, true)))) (a : Addr) (w : World) :
    (method (k + 1) 52 (.pointer (some a)) name).run Try.prog w = .ok (f, .pointer (some a)) w := by
  obtain ⟨i, m, hi, hm, hp, hf⟩ := row_of h
  simp [method, typeInfo, hi, hm, hp, hf, follow, receiverAt, run_underlying Try.underlying52, Place.get]
theorem meth_val {name : String} {f k : Nat} (h : (Try.prog.info? 52).map (fun i => (i.methods.find? (·.name == name)).map (fun m => (m.path.size, m.func))) = some (some (0, some (f, false)))) (a : Addr) (w : World) (v : Value) (hv : w.cell? a = some v) :
    (method (k + 1) 52 (.pointer (some a)) name).run Try.prog w = .ok (f, v) w := by
  obtain ⟨i, m, hi, hm, hp, hf⟩ := row_of h
  have h1 : (Builtin.ssaWrapNilChk_ #[52] 52 #[Value.pointer (some a), strVal "", strVal ((name.splitOn ".").getLast?.getD name)]).run Try.prog w = .ok (.pointer (some a)) w := by
    rfl
  have h2 : (loadVar 49 a).run Try.prog w = .ok v w := by
    simp [loadVar, isAgg, run_underlying Try.underlying49]
    go_simp
  simp [method, typeInfo, hi, hm, hp, hf, follow, receiverAt, run_underlying Try.underlying52, Place.get, h1, asAddr, h2]
/-- The method values of a queue whose variable is at a. -/
theorem queue_meths (a : Addr) (w : World) (v : Value) (hv : w.cell? a = some v) (k : Nat) :
    (method (k + 1) 52 (.pointer (some a)) "Len").run Try.prog w = .ok (26, v) w ∧ (method (k + 1) 52 (.pointer (some a)) "Less").run Try.prog w = .ok (55, v) w ∧ (method (k + 1) 52 (.pointer (some a)) "Swap").run Try.prog w = .ok (56, v) w ∧
    (method (k + 1) 52 (.pointer (some a)) "Pop").run Try.prog w = .ok (57, .pointer (some a)) w ∧ (method (k + 1) 52 (.pointer (some a)) "Push").run Try.prog w = .ok (58, .pointer (some a)) w :=
  ⟨meth_val row_len a w v hv, meth_val row_less a w v hv, meth_val row_swap a w v hv, meth_ptr row_pop a w, meth_ptr row_push a w⟩
end Go.Proofs.Ytimhdkgllgdamaa
