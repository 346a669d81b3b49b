/- Steps on the way to the card of EngineNew: the program as the abstract machine reads it. -/
import Derived.Test.YtjclinlclbjobaaGreatDoorQaA
import Derived.Test.YtjclinlclbjobaaGreatDoorQaE
import Derived.Test.YtjclinlclbjobaaGreatDoorProg
import Derived.Test.YtjclinlclbjobaaGreatDoorQaD
import Derived.KernelRfl
set_option linter.all false
set_option linter.unusedVariables false
set_option linter.unusedSimpArgs false
set_option linter.unnecessarySimpa false

/- The given program, compiled for the abstract machine: definitions. -/
section
namespace Go.Qa.Try
open Go.Proofs
noncomputable def trR {α : Type} (l : List α) : Nat → Tr α → Tr α := @List.rec α (fun _ => Nat → Tr α → Tr α) (fun _ t => t) (fun a _ ih i t => ih (Nat.succ i) (putR (some a) (Nat.succ i) t i)) l
noncomputable def tt : Tr TypeInfo := trR Tryz.prog.types.toList 0 .nil
noncomputable def ft : Tr Func := trR Tryz.prog.funcs.toList 0 .nil
def heldL : List Nat := [34, 35, 42, 43, 257, 258, 399, 390]
noncomputable def C : Ctx := ⟨⟨fun t => getR tt t⟩, fun t => !(memN heldL t), 5, fun g => Nat.beq g 0⟩
def natKOf (n : Nat) : Option NatK := match Nat.beq n 685 with
  | true => some .indexByte
  | false => match Nat.beq n 689 with
    | true => some .count
    | false => match Nat.beq n 717 with
      | true => some .same
      | false => match Nat.beq n 718 with
        | true => some (.noZero 5)
        | false => none
def copyPre : List AOper := [⟨some 9, none, .mv (.t 0), []⟩, ⟨some 10, none, .nilck (.t 9), []⟩, ⟨some 11, none, .faddr 0 (.t 10), []⟩, ⟨some 12, none, .load none (.t 11), []⟩]
def copyRound : List AOper := [⟨some 19, none, .mv (.t 3), []⟩, ⟨some 20, none, .nilck (.t 19), []⟩, ⟨some 21, none, .faddr 0 (.t 20), []⟩, ⟨some 22, none, .load none (.t 21), []⟩, ⟨some 23, none, .mv (.t 4), []⟩, ⟨some 24, none, .mv (.t 5), []⟩,
  ⟨some 25, none, .call (.k (.func (.func 33) [] [])) [.t 24], [3]⟩, ⟨none, none, .mapup .str (.t 22) (.t 23) (.t 25), []⟩]
def copyF : AFun := ⟨27, [.tmp 2], .seq (.region false [⟨some 2, none, .mv (.k .nilptr), []⟩])
  (.seq (.region false [⟨some 6, none, .call (.k (.func (.func 6) [] [])) [], []⟩, ⟨some 3, none, .mv (.t 6), []⟩])
  (.seq (.seq (.region false [⟨some 7, none, .mv (.t 0), []⟩, ⟨some 8, none, .eq true .ptr (.t 7) (.k .nilptr), []⟩])
    (.cond (.t 8) (.seq (.region false copyPre) (.block 0 (.seq (.mapIt false) (.seq (.region true copyRound) (.mapIt true))))) .skip))
  (.seq (.region false [⟨some 26, none, .mv (.t 3), []⟩, ⟨some 2, none, .mv (.t 26), []⟩]) .ret)))⟩
noncomputable def prog (n : Nat) : Option AFun :=
  match Nat.beq n 22 with
  | true => some copyF
  | false => match Nat.beq n 15 with
    | true => none
    | false => match natKOf n with
      | some k => some ⟨arityN k, [.tmp 0], .native k⟩
      | none => match getR ft n with
        | some f => cFun C f
        | none => none
noncomputable def getAF (o : Option AFun) : AFun := match o with
  | some af => af
  | none => ⟨0, [], .bad⟩
noncomputable def afOf (n : Nat) : AFun := getAF (prog n)
noncomputable def af15 : AFun := getAF (cFun C Tryz.f15)
end Go.Qa.Try
end

/- The given program, compiled: every function that the abstract machine knows is the model's. -/
section
namespace Go.Qa.Try
open Go.Proofs Go.Qa
variable {F : Fence}

theorem trR_get {α : Type} : ∀ (l : List α) (i : Nat) (t : Tr α) (j : Nat), (trR l i t).get j = if i ≤ j ∧ j < i + l.length then l[j - i]? else t.get j
  | [], i, t, j => by
    show t.get j = _
    rw [if_neg (by rintro ⟨h1, h2⟩; simp at h2; omega)]
  | a :: l, i, t, j => by
    show (trR l (Nat.succ i) (putR (some a) (Nat.succ i) t i)).get j = _
    rw [trR_get l, putR_eq, Tr.get_set]
    simp only [List.length_cons]
    by_cases h : Nat.succ i ≤ j ∧ j < Nat.succ i + l.length
    · rw [if_pos h, if_pos (by omega)]
      have : j - i = (j - Nat.succ i) + 1 := by omega
      rw [this]; simp
    · rw [if_neg h]
      by_cases e : j = i
      · subst e; rw [if_pos rfl, if_pos (by omega)]; simp
      · rw [if_neg e, if_neg (by omega)]
theorem tt_get {t : Nat} {i : TypeInfo} (h : getR tt t = some i) : Tryz.prog.types[t]? = some i := by
  rw [getR_eq] at h
  unfold tt at h
  rw [trR_get] at h
  split at h
  · simpa using h
  · cases h
theorem ft_get {f : Nat} {fn : Func} (h : getR ft f = some fn) : Tryz.prog.funcs[f]? = some fn := by
  rw [getR_eq] at h
  unfold ft at h
  rw [trR_get] at h
  split at h
  · simpa using h
  · cases h

theorem C_info : C.I.info = fun t => getR tt t := by kernel_rfl
theorem ctx_ok : CtxOk C Tryz.prog where
  info t i h := by
    rw [C_info] at h
    have h1 := tt_get h
    have hlt : t < Tryz.prog.types.size := (Array.getElem?_eq_some_iff.1 h1).1
    show Tables.info? _ t = some i
    unfold Tables.info?
    rw [if_pos hlt]
    exact h1
  stood t h := by
    have hm : memN heldL t = true := by
      have h : (!(memN heldL t)) = false := h
      simpa using h
    rw [memN_iff] at hm
    have e : Tryz.prog.depth = Tryz.prog.depth := rfl
    simp only [heldL, List.mem_cons, List.not_mem_nil, or_false] at hm
    rcases hm with rfl | rfl | rfl | rfl | rfl | rfl | rfl | rfl
    · exact ⟨Tryz.stoodInHeld34, by kernel_rfl⟩
    · exact ⟨Tryz.stoodInHeld35, by kernel_rfl⟩
    · exact ⟨Tryz.stoodInHeld42, by kernel_rfl⟩
    · exact ⟨Tryz.stoodInHeld43, by kernel_rfl⟩
    · exact ⟨Tryz.stoodInHeld257, by kernel_rfl⟩
    · exact ⟨Tryz.stoodInHeld258, by kernel_rfl⟩
    · exact ⟨Tryz.stoodInHeld399, by kernel_rfl⟩
    · exact ⟨by kernel_rfl, by kernel_rfl⟩

theorem names_ok : (Tryz.prog.funcs.toList.all fun f => !(f.name == "runtime.NumGoroutine")) = true := by kernel_rfl
theorem name_ok {f : Nat} {fn : Func} (h : Tryz.prog.funcs[f]? = some fn) : (fn.name == "runtime.NumGoroutine") = false := by
  have hm : fn ∈ Tryz.prog.funcs.toList := by
    have := Array.mem_of_getElem? h
    simpa using this
  have := List.all_eq_true.1 names_ok fn hm
  simpa using this
theorem compiled_of {f : Nat} {fn : Func} {af : AFun} (h1 : Tryz.prog.funcs[f]? = some fn) (h2 : cFun C fn = some af) : Compiled C Tryz.prog f af := by
  have h3 := h2
  unfold cFun at h3
  split at h3 <;> first | (cases h3; done) | skip
  rename_i b r hb hr
  exact ⟨fn, b, h1, name_ok h1, hb, h2⟩

theorem beqF {a b : Nat} (h : Nat.beq a b = true) : a = b := Nat.eq_of_beq_eq_true h
theorem natK_cases {f : Nat} {k : NatK} (h : natKOf f = some k) : (f = 685 ∧ k = .indexByte) ∨ (f = 689 ∧ k = .count) ∨ (f = 717 ∧ k = .same) ∨ (f = 718 ∧ k = .noZero 5) := by
  unfold natKOf at h
  split at h
  · rename_i e; injection h with h; exact .inl ⟨beqF e, h.symm⟩
  · split at h
    · rename_i e; injection h with h; exact .inr (.inl ⟨beqF e, h.symm⟩)
    · split at h
      · rename_i e; injection h with h; exact .inr (.inr (.inl ⟨beqF e, h.symm⟩))
      · split at h
        · rename_i e; injection h with h; exact .inr (.inr (.inr ⟨beqF e, h.symm⟩))
        · cases h
theorem prog_cases {f : Nat} {af : AFun} (h : prog f = some af) : (f = 22 ∧ af = copyF) ∨ (∃ k, natKOf f = some k ∧ af = ⟨arityN k, [.tmp 0], .native k⟩) ∨ Compiled C Tryz.prog f af := by
  unfold prog at h
  split at h
  · rename_i e; injection h with h; exact .inl ⟨beqF e, h.symm⟩
  · split at h
    · cases h
    · split at h
      · rename_i k hk; injection h with h; exact .inr (.inl ⟨k, hk, h.symm⟩)
      · split at h
        · rename_i fn hfn; exact .inr (.inr (compiled_of (ft_get hfn) h))
        · cases h

/-! ### Natives -/
theorem ext685 : ExtOk Tryz.prog 685 Extern.BytealgIndexByte.indexByte := ⟨Tryz.f685, Tryz.func685, by decide +kernel, rfl, by decide +kernel, by kernel_rfl⟩
theorem ext689 : ExtOk Tryz.prog 689 Extern.BytealgCount.count := ⟨Tryz.f689, Tryz.func689, by decide +kernel, rfl, by decide +kernel, by kernel_rfl⟩
theorem ext717 : ExtOk Tryz.prog 717 Extern.AbiNoEscape.same := ⟨Tryz.f717, Tryz.func717, by decide +kernel, rfl, by decide +kernel, by kernel_rfl⟩
theorem ext718 : ExtOk Tryz.prog 718 (Extern.BytealgMakeNoZero.makeNoZero #[3] #[24]) := ⟨Tryz.f718, Tryz.func718, by decide +kernel, rfl, by decide +kernel, by kernel_rfl⟩
theorem u24 : C.I.under 24 = some (.slice 5) := by kernel_rfl

theorem nat_row {f : Nat} {k : NatK} (h : natKOf f = some k) : (k = .indexByte ∧ ExtOk Tryz.prog f Extern.BytealgIndexByte.indexByte) ∨ (k = .count ∧ ExtOk Tryz.prog f Extern.BytealgCount.count) ∨
    (k = .same ∧ ExtOk Tryz.prog f Extern.AbiNoEscape.same) ∨ ∃ ps t el, k = .noZero el ∧ ExtOk Tryz.prog f (Extern.BytealgMakeNoZero.makeNoZero ps #[t]) ∧ C.I.under t = some (.slice el) := by
  rcases natK_cases h with ⟨rfl, rfl⟩ | ⟨rfl, rfl⟩ | ⟨rfl, rfl⟩ | ⟨rfl, rfl⟩
  · exact .inl ⟨rfl, ext685⟩
  · exact .inr (.inl ⟨rfl, ext689⟩)
  · exact .inr (.inr (.inl ⟨rfl, ext717⟩))
  · exact .inr (.inr (.inr ⟨#[3], 24, 5, rfl, ext718, u24⟩))


end Go.Qa.Try
end

/- The given program, compiled: the abstract machine is sound for it. -/
section
namespace Go.Qa.Try
open Go.Proofs Go.Qa
attribute [local irreducible] prog C tt ft
variable {F : Fence}

/-! ### The one function that ranges over a map -/
noncomputable def ops22 : Array Oper := match Tryz.f22.body with
  | some (.seq _ (.seq _ (.seq (.seq _ (.cond _ (.seq (.region _ ops _) _) _)) _))) => ops
  | _ => #[]
noncomputable def oper0 : Oper := { dst := none, op := .move (.tmp 0), type := 0, pos := "", after := #[], guard := none }
noncomputable def stretch22 (i : Nat) : Code := match Tryz.f22.body with
  | some (.seq r0 (.seq r1 (.seq (.seq r2 (.cond _ (.seq _ (.block _ (.loop (.seq _ (.seq _ (.block _ (.seq _ r6))))))) _)) (.seq r7 _)))) => (match i with
    | 0 => r0
    | 1 => r1
    | 2 => r2
    | 6 => r6
    | _ => r7)
  | _ => .skip
noncomputable def oper22 (r i : Nat) : Oper := match Tryz.f22.body with
  | some (.seq _ (.seq _ (.seq (.seq _ (.cond _ (.seq _ (.block _ (.loop (.seq (.region _ o4 _) (.seq _ (.block _ (.seq (.region _ o5 _) _))))))) _)) _))) => (match r with
    | 4 => o4.toList.getD i oper0
    | _ => o5.toList.getD i oper0)
  | _ => oper0
theorem body22 : Tryz.f22.body = some (.seq (stretch22 0) (.seq (stretch22 1) (.seq (.seq (stretch22 2) (.cond (.tmp 8) (.seq (.region 3 ops22 false) (.block 0 (.loop (.seq (.region 4 #[oper22 4 0, oper22 4 1] false) (.seq (.cond (.tmp 15) .skip (.exit 0)) (.block 1 (.seq (.region 5 #[oper22 5 0, oper22 5 1, oper22 5 2, oper22 5 3, oper22 5 4] false) (stretch22 6)))))))) .skip)) (.seq (stretch22 7) .ret)))) := by kernel_rfl
theorem nt22 : copyF.ntmps = Tryz.f22.ntmps := by kernel_rfl
theorem four22 : (ops22.toList.take 4).length = 4 := by kernel_rfl
theorem prog22 : prog 22 = some copyF := by kernel_rfl
theorem res22 : cRes C Tryz.f22.results.toList = some copyF.res := by kernel_rfl
theorem pre22 : cOpers.go0 C (ops22.toList.map (·.dst)) (ops22.toList.take 4) = some copyPre := by kernel_rfl
theorem ops22_eq : ops22.toList = ops22.toList.take 4 ++ [ops22.toList.getD 4 oper0] := by kernel_rfl
theorem isRange : IsOp (ops22.toList.getD 4 oper0) 13 (.range 59 (.tmp 12)) := ⟨by kernel_rfl, by kernel_rfl, by kernel_rfl⟩

theorem copy22 (F : Fence) (hF : FOk F) (hF0 : F.round = none) (n : Nat) (hcode : CodeOk C Tryz.prog F (run prog n)) : CallAt C Tryz.prog F (callF prog (run prog n)) 22 := by
  have hbody : copyF.body = copyA (cCode C (stretch22 0)) (cCode C (stretch22 1)) (cCode C (stretch22 2)) copyPre (.region true copyRound) (cCode C (stretch22 7)) := by kernel_rfl
  have h6 : cCode C (stretch22 6) = .region true copyRound := by kernel_rfl
  have hpure : ∀ o ∈ copyPre, ∀ f a, o.op ≠ .call f a := by
    intro o ho f a
    simp only [copyPre, List.mem_cons, List.not_mem_nil, or_false] at ho
    rcases ho with rfl | rfl | rfl | rfl <;> simp
  have hk : ∀ o ∈ copyRound, o.dst ≠ some 12 ∧ o.dst ≠ some 13 := by
    intro o ho
    simp only [copyRound, List.mem_cons, List.not_mem_nil, or_false] at ho
    rcases ho with rfl | rfl | rfl | rfl | rfl | rfl | rfl | rfl <;> simp
  have h := @copy_at Tryz.prog C F prog n ctx_ok hF hF0 hcode 22 copyF Tryz.f22 prog22 Tryz.func22 (name_ok Tryz.func22) nt22 res22 (stretch22 0) (stretch22 1) (stretch22 2) (stretch22 6) (stretch22 7) 3 4 5 59 9 24 ops22 (ops22.toList.take 4) (ops22.toList.getD 4 oper0)
    (oper22 4 0) (oper22 4 1) (oper22 5 0) (oper22 5 1) (oper22 5 2) (oper22 5 3) (oper22 5 4) copyPre copyRound body22 hbody ops22_eq four22 pre22 hpure isRange Tryz.underlying59 ⟨by kernel_rfl, by kernel_rfl, by kernel_rfl⟩ ⟨by kernel_rfl, by kernel_rfl, by kernel_rfl⟩
    ⟨by kernel_rfl, by kernel_rfl, by kernel_rfl⟩ ⟨by kernel_rfl, by kernel_rfl, by kernel_rfl⟩ ⟨by kernel_rfl, by kernel_rfl, by kernel_rfl⟩ ⟨by kernel_rfl, by kernel_rfl, by kernel_rfl⟩ ⟨by kernel_rfl, by kernel_rfl, by kernel_rfl⟩ h6 hk
  assumption

theorem enter22 (args : Array Value) (w : World) : (callFunc 22 args).run Tryz.prog w = .ok (.enter 22 args) w := by
  have h2 : ¬ Tryz.f22.name = "runtime.NumGoroutine" := by have := name_ok Tryz.func22; simpa using this
  have h3 : Tryz.f22.body.isNone = false := by kernel_rfl
  cases hb : Tryz.f22.body with
  | none => rw [hb] at h3; cases h3
  | some b => simp [callFunc, Tryz.func22, h2, hb]
theorem follows_ok : Tryz.prog.follows .mixedOrders = true := by kernel_rfl
theorem prog_is : ProgIs C Tryz.prog prog 22 copyF where
  ctx := ctx_ok
  follows := follows_ok
  cases f af h := by
    rcases prog_cases h with h | ⟨k, hk, ha⟩ | hc
    · exact .inl h
    · exact .inr (.inl ⟨k, ha, nat_row hk⟩)
    · exact .inr (.inr hc)
  enter := enter22
  copyAt := by have h := @copy22; assumption

end Go.Qa.Try
end
