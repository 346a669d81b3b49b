/- Steps on the way to the card of EngineNew: what the law reaches, by tables. -/
import Derived.Test.YtjclinlclbjobaaGreatDoorQaR1
set_option linter.all false
set_option linter.unusedVariables false
set_option linter.unusedSimpArgs false
set_option linter.unnecessarySimpa false
namespace Go.Qa.Try
open Go.Proofs Go.Qa
set_option maxRecDepth 100000
theorem inl_tab : Tryz.prog.funcs.toList.map (fun (fn : Func) => if fn.ours || fn.body.isNone || fn.name == "runtime.NumGoroutine" then some fn.name else none) = inlL := by kernel_rfl
theorem glo_tab : Tryz.prog.funcs.toList.map (fun (fn : Func) => fn.body.elim [] Code.globalsNamed) = gloL := by kernel_rfl
theorem ent_tab : Tryz.prog.funcs.toList.map (fun (fn : Func) => if fn.body.isNone then entryReads.lookup fn.name else none) = entL := by kernel_rfl
theorem inl_run : cloL.filterMap (fun (g : Nat) => (inlL[g]?).bind id) = ["internal/abi.NoEscape", "internal/bytealg.IndexByteString", "internal/bytealg.MakeNoZero", "internal/bytealg.CountString", "internal/bytealg.IndexString"] := by kernel_rfl
theorem var_run : (((cloL.flatMap fun (g : Nat) => (gloL[g]?).getD []).eraseDups).filterMap (fun g => (Tryz.prog.globals[g]?).map (·.name)) ++ cloL.filterMap fun (g : Nat) => (entL[g]?).bind id).eraseDups = ["internal/strconv.uint64pow10", "math/bits.deBruijn32tab", "math/bits.deBruijn64tab", "unicode/utf8.first", "unicode/utf8.acceptRanges", "internal/bytealg.MaxLen"] := by kernel_rfl
theorem inPlace3 : Tryz.prog.inPlace 3 = ["internal/abi.NoEscape", "internal/bytealg.IndexByteString", "internal/bytealg.MakeNoZero", "internal/bytealg.CountString", "internal/bytealg.IndexString"] := by
  unfold Program.inPlace
  rw [closure3]
  have e : (fun (g : Nat) => (Tryz.prog.funcs[g]?).bind fun (fn : Func) => if fn.ours || fn.body.isNone || fn.name == "runtime.NumGoroutine" then some fn.name else none) = fun g => (inlL[g]?).bind id := funext fun g => bind_map inl_tab g
  rw [e]
  exact inl_run
theorem varsNamed3 : Tryz.prog.varsNamed 3 = ["internal/strconv.uint64pow10", "math/bits.deBruijn32tab", "math/bits.deBruijn64tab", "unicode/utf8.first", "unicode/utf8.acceptRanges", "internal/bytealg.MaxLen"] := by
  unfold Program.varsNamed
  rw [closure3]
  have e1 : (fun (g : Nat) => ((Tryz.prog.funcs[g]?).bind (fun (x : Func) => x.body)).elim [] Code.globalsNamed) = fun g => (gloL[g]?).getD [] := funext fun g => by
    rw [← elim_map glo_tab g]
    cases Tryz.prog.funcs[g]? <;> rfl
  have e2 : (fun (g : Nat) => (Tryz.prog.funcs[g]?).bind fun (fn : Func) => if fn.body.isNone then entryReads.lookup fn.name else none) = fun g => (entL[g]?).bind id := funext fun g => bind_map ent_tab g
  rw [e1, e2]
  exact var_run
theorem unfollowed3 : Tryz.prog.unfollowed 3 = true := by
  unfold Program.unfollowed
  rw [closure3, List.any_eq_true]
  refine ⟨35, by decide +kernel, ?_⟩
  rw [Tryz.func35]
  kernel_rfl
theorem recurses3 : Tryz.prog.recurses 3 = true := by
  unfold Program.recurses
  rw [unfollowed3]
  rfl
end Go.Qa.Try
