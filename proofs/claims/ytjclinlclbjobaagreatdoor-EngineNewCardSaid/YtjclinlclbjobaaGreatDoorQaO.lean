/- The law EngineNew returns true, for every input, and memory only grows. -/
import Derived.Test.YtjclinlclbjobaaGreatDoorQaN1
import Derived.Test.YtjclinlclbjobaaGreatDoorQaN2
import Derived.Test.YtjclinlclbjobaaGreatDoorQaN3
import Derived.Test.YtjclinlclbjobaaGreatDoorQaN4
import Derived.Test.YtjclinlclbjobaaGreatDoorQaN5
import Derived.OpenShut
import Derived.Lib.LaidTab
set_option linter.all false
set_option linter.unusedVariables false
set_option linter.unusedSimpArgs false
set_option linter.unnecessarySimpa false

/- The law, whatever its arguments: it answers true, and the world only grows. -/
section
namespace Go.Qa.Try
open Go.Proofs Go.Qa

def tens : List Nat := [1, 10, 100, 1000, 10000, 100000, 1000000, 10000000, 100000000, 1000000000, 10000000000, 100000000000, 1000000000000, 10000000000000, 100000000000000, 1000000000000000, 10000000000000000, 100000000000000000, 1000000000000000000, 10000000000000000000]
def tensC : List Value := tens.map fun n => .int .u64 (.ofNat n)
theorem pow10_eq : pow10 = tens.map fun n => AV.int .u64 (.ofNat n) := by kernel_rfl
theorem ints_rel (σ : Sig) : ∀ l : List Nat, VRels σ (l.map fun n => AV.int .u64 (.ofNat n)) (l.map fun n => Value.int .u64 (.ofNat n))
  | [] => .nil
  | n :: l => .cons _ _ _ _ (.int _ _) (ints_rel σ l)
theorem pow10_rel (σ : Sig) : VRels σ pow10 tensC.toArray.toList := by
  rw [pow10_eq]; exact ints_rel σ tens
theorem pow10_len : pow10.length = tensC.toArray.size := by
  rw [pow10_eq]; simp [tensC]
theorem compiled3 : Compiled C Tryz.prog 3 (afOf 3) := by
  have h := @compiled_ok 3 (afOf 3) (by decide) (by kernel_rfl) (some_af (by kernel_rfl))
  assumption
theorem ok3_ok : ∀ g af, (g = 4 ∨ g = 21) → prog g = some af → Compiled C Tryz.prog g af := by
  intro g af h hp
  rcases h with rfl | rfl
  all_goals
    have h := @compiled_ok _ af (by decide) (by kernel_rfl) hp
    assumption
theorem law_calls {args : List AV} {next4 : Nat} {R3 : RF} {L3 L4 : List (Nat × AO)} (hL3 : L3 = [(0, .cells pow10 585 false)]) (hT3 : startT args 0 ⟨Nat.max (afOf 3).ntmps (llen args), blank, .nil⟩ = ⟨181, R3, .nil⟩)
    (hpart3 : PartR prog env3 (afOf 3).body (afOf 3).res ⟨181, R3, .nil⟩ (stL L3 10 10 []) (.bool true) (stL L4 next4 10 []))
    {w : World} {cargs : Array Value} (h0 : w.heap[0]? = some (.cells tensC.toArray 585)) (blk : Nat)
    (hv : VRels (fun id => if id = 0 then some ⟨0, 0, pow10.length⟩ else if id = 1 then some ⟨blk, 0, 0⟩ else none) args cargs.toList) :
    Calls Tryz.prog 3 cargs w fun e w' => e = .returned (.bool true) ∧ Go.Qa.Grown w w' := by
  have h := @whole_true Tryz.prog C prog 22 copyF prog_is 15 af15 compiled15 okF okF_ok okF_no pow10 585 161 10 22203 R0 L43 start15 known_part pow10_ints glob_ok (by decide) 3 (afOf 3) compiled3 (fun g => g = 4 ∨ g = 21) ok3_ok args 181 10 next4 R3 L3 L4 hL3 (by decide) hT3 hpart3 w tensC.toArray cargs h0 pow10_len pow10_rel blk hv
  assumption

/-- the slice, as the machine has it -/
theorem slice_rel {v3 : Value} (h : v3 = .slice none 0 0 ∨ ∃ blk off len cap, v3 = .slice (some ⟨blk, off, none⟩) len cap ∧ len ≤ cap) :
    ∃ (bv : AV) (blk : Nat), (bv = .nilsl ∨ ∃ o l c, bv = .sl 1 o l c) ∧ VRel (fun id => if id = 0 then some ⟨0, 0, pow10.length⟩ else if id = 1 then some ⟨blk, 0, 0⟩ else none) bv v3 := by
  rcases h with rfl | ⟨blk, off, len, cap, rfl, hle⟩
  · exact ⟨.nilsl, 0, .inl rfl, .nilsl⟩
  · refine ⟨.sl 1 off len cap, blk, .inr ⟨off, len, cap, rfl⟩, ?_⟩
    have := VRel.sl (σ := fun id => if id = 0 then some ⟨0, 0, pow10.length⟩ else if id = 1 then some ⟨blk, 0, 0⟩ else none) 1 off len cap ⟨blk, 0, 0⟩ (by simp) hle
    simpa using this

theorem law_all {w : World} (h0 : w.heap[0]? = some (.cells tensC.toArray 585)) (a b c rm kp nw : Int) (d1 d2 d3 : Bool) {v3 : Value} (h3 : v3 = .slice none 0 0 ∨ ∃ blk off len cap, v3 = .slice (some ⟨blk, off, none⟩) len cap ∧ len ≤ cap) :
    Calls Tryz.prog 3 #[.agg #[.int .i64 a, .int .i64 b, .int .i64 c, .bool d1, .bool d2, .bool d3], .int .i64 rm, .int .i64 kp, v3, .int .i64 nw] w fun e w' => e = .returned (.bool true) ∧ Go.Qa.Grown w w' := by
  obtain ⟨bv, blk, hb, hr⟩ := slice_rel h3
  cases a with
  | negSucc sk =>
    have h := @law_calls _ _ _ _ _ (by kernel_rfl) (startA sk b c rm kp nw d1 d2 d3 bv hb) (caseA sk b c rm kp nw d1 d2 d3 bv hb) w #[.agg #[.int .i64 (.negSucc sk), .int .i64 b, .int .i64 c, .bool d1, .bool d2, .bool d3], .int .i64 rm, .int .i64 kp, v3, .int .i64 nw] h0 blk
      (.cons _ _ _ _ (.agg _ _ (.cons _ _ _ _ (.int _ _) (.cons _ _ _ _ (.int _ _) (.cons _ _ _ _ (.int _ _) (.cons _ _ _ _ (.bool _) (.cons _ _ _ _ (.bool _) (.cons _ _ _ _ (.bool _) .nil))))))) (.cons _ _ _ _ (.int _ _) (.cons _ _ _ _ (.int _ _) (.cons _ _ _ _ hr (.cons _ _ _ _ (.int _ _) .nil)))))
    assumption
  | ofNat sk =>
    cases b with
    | negSucc lg =>
      have h := @law_calls _ _ _ _ _ (by kernel_rfl) (startB sk lg c rm kp nw d1 d2 d3 bv hb) (caseB sk lg c rm kp nw d1 d2 d3 bv hb) w #[.agg #[.int .i64 (.ofNat sk), .int .i64 (.negSucc lg), .int .i64 c, .bool d1, .bool d2, .bool d3], .int .i64 rm, .int .i64 kp, v3, .int .i64 nw] h0 blk
        (.cons _ _ _ _ (.agg _ _ (.cons _ _ _ _ (.int _ _) (.cons _ _ _ _ (.int _ _) (.cons _ _ _ _ (.int _ _) (.cons _ _ _ _ (.bool _) (.cons _ _ _ _ (.bool _) (.cons _ _ _ _ (.bool _) .nil))))))) (.cons _ _ _ _ (.int _ _) (.cons _ _ _ _ (.int _ _) (.cons _ _ _ _ hr (.cons _ _ _ _ (.int _ _) .nil)))))
      assumption
    | ofNat lg =>
      cases c with
      | negSucc rg =>
        have h := @law_calls _ _ _ _ _ (by kernel_rfl) (startC sk lg rg rm kp nw d1 d2 d3 bv hb) (caseC sk lg rg rm kp nw d1 d2 d3 bv hb) w #[.agg #[.int .i64 (.ofNat sk), .int .i64 (.ofNat lg), .int .i64 (.negSucc rg), .bool d1, .bool d2, .bool d3], .int .i64 rm, .int .i64 kp, v3, .int .i64 nw] h0 blk
          (.cons _ _ _ _ (.agg _ _ (.cons _ _ _ _ (.int _ _) (.cons _ _ _ _ (.int _ _) (.cons _ _ _ _ (.int _ _) (.cons _ _ _ _ (.bool _) (.cons _ _ _ _ (.bool _) (.cons _ _ _ _ (.bool _) .nil))))))) (.cons _ _ _ _ (.int _ _) (.cons _ _ _ _ (.int _ _) (.cons _ _ _ _ hr (.cons _ _ _ _ (.int _ _) .nil)))))
        assumption
      | ofNat rg =>
        have key : ∀ {xr xk : AV} {R3 : RF} {L3 L4 : List (Nat × AO)} {next4 : Nat}, (xr = .int .i64 rm) → (xk = .int .i64 kp) → L3 = [(0, .cells pow10 585 false)] → startT [.agg [I sk, I lg, I rg, .bool d1, .bool d2, .bool d3], xr, xk, bv, .int .i64 nw] 0 ⟨Nat.max (afOf 3).ntmps (llen [.agg [I sk, I lg, I rg, .bool d1, .bool d2, .bool d3], xr, xk, bv, .int .i64 nw]), blank, .nil⟩ = ⟨181, R3, .nil⟩ →
            PartR prog env3 (afOf 3).body (afOf 3).res ⟨181, R3, .nil⟩ (stL L3 10 10 []) (.bool true) (stL L4 next4 10 []) →
            Calls Tryz.prog 3 #[.agg #[.int .i64 (.ofNat sk), .int .i64 (.ofNat lg), .int .i64 (.ofNat rg), .bool d1, .bool d2, .bool d3], .int .i64 rm, .int .i64 kp, v3, .int .i64 nw] w fun e w' => e = .returned (.bool true) ∧ Go.Qa.Grown w w' := by
          intro xr xk R3 L3 L4 next4 e1 e2 hL hs hp
          subst e1; subst e2
          have h := @law_calls _ _ _ _ _ hL hs hp w #[.agg #[.int .i64 (.ofNat sk), .int .i64 (.ofNat lg), .int .i64 (.ofNat rg), .bool d1, .bool d2, .bool d3], .int .i64 rm, .int .i64 kp, v3, .int .i64 nw] h0 blk
            (.cons _ _ _ _ (.agg _ _ (.cons _ _ _ _ (.int _ _) (.cons _ _ _ _ (.int _ _) (.cons _ _ _ _ (.int _ _) (.cons _ _ _ _ (.bool _) (.cons _ _ _ _ (.bool _) (.cons _ _ _ _ (.bool _) .nil))))))) (.cons _ _ _ _ (.int _ _) (.cons _ _ _ _ (.int _ _) (.cons _ _ _ _ hr (.cons _ _ _ _ (.int _ _) .nil)))))
          assumption
        cases rm with
        | negSucc rm => have h := key rfl rfl (by kernel_rfl) (startD sk lg rg rm kp nw d1 d2 d3 bv hb) (caseD sk lg rg rm kp nw d1 d2 d3 bv hb); assumption
        | ofNat rm =>
          cases hrm : Nat.blt 10000 rm with
          | true => have h := key rfl rfl (by kernel_rfl) (startE sk lg rg rm kp nw d1 d2 d3 bv hb) (caseE sk lg rg rm kp nw d1 d2 d3 bv hb hrm); assumption
          | false =>
            cases kp with
            | negSucc kp => have h := key rfl rfl (by kernel_rfl) (startF sk lg rg rm kp nw d1 d2 d3 bv hb) (caseF sk lg rg rm kp nw d1 d2 d3 bv hb hrm); assumption
            | ofNat kp =>
              cases hkp : Nat.blt 10000 kp with
              | true => have h := key rfl rfl (by kernel_rfl) (startG sk lg rg rm kp nw d1 d2 d3 bv hb) (caseG sk lg rg rm kp nw d1 d2 d3 bv hb hrm hkp); assumption
              | false => have h := key rfl rfl (by kernel_rfl) (startH sk lg rg rm kp nw d1 d2 d3 bv hb) (caseH sk lg rg rm kp nw d1 d2 d3 bv hb hrm hkp); assumption

end Go.Qa.Try
end

/- From the row's condition to the machine: the table's block, the arguments' forms; and back: what is behind the call. -/
section
namespace Go.Qa.Try
open Go.Proofs Go.Qa Go.ChangeShapes Go.WideShapes Go.RowKit

def tensI : List Int := [1, 10, 100, 1000, 10000, 100000, 1000000, 10000000, 100000000, 1000000000, 10000000000, 100000000000, 1000000000000, 10000000000000, 100000000000000, 1000000000000000, 10000000000000000, 100000000000000000, 1000000000000000000, 10000000000000000000]
def zeros20 : Array Value := #[.int .u64 0, .int .u64 0, .int .u64 0, .int .u64 0, .int .u64 0, .int .u64 0, .int .u64 0, .int .u64 0, .int .u64 0, .int .u64 0, .int .u64 0, .int .u64 0, .int .u64 0, .int .u64 0, .int .u64 0, .int .u64 0, .int .u64 0, .int .u64 0, .int .u64 0, .int .u64 0]
theorem gTab : Tryz.prog.globalNamed "internal/strconv.uint64pow10" = some 0 := by kernel_rfl
theorem gTabType : (Tryz.prog.globals[0]?).map (·.type) = some 585 := by kernel_rfl
theorem gSize : 0 < Tryz.prog.globals.size := of_decide_eq_true (by kernel_rfl)
theorem row0 : ((begin Tryz.prog (fun _ _ => 0) default).world.heap[0]?).bind Obj.row? = some (zeros20, 585) := by kernel_rfl
theorem cells585 : Tryz.prog.cellsOf 585 = 20 := by kernel_rfl
theorem cells23 : Tryz.prog.cellsOf 23 = 6 := by kernel_rfl
theorem types23 : Tryz.prog.cellTypes Tryz.prog.depth 23 = some [3, 3, 3, 4, 4, 4] := by kernel_rfl
theorem tens_eq : tensI.map (fun z => Value.int .u64 z) = tensC := by kernel_rfl

theorem block0 {W : World} (ht : Lib.TabIs Tryz.prog W "internal/strconv.uint64pow10" .u64 tensI) (hS : W.ShapedOpen Tryz.prog) : W.heap[0]? = some (.cells tensC.toArray 585) := by
  obtain ⟨cs, hh, _, _⟩ := hS.1 0 zeros20 585 gSize row0
  unfold Lib.TabIs World.var? at ht
  rw [gTab] at ht
  simp only [Option.bind_some, hh] at ht
  injection ht with ht
  rw [hh, ht, tens_eq]

theorem agg_gen {P : Program} {W : World} {base t i b : Nat} {fs : Array Field} {v : Value} (hu : P.underlying t = some (.struct fs)) (hc : P.cellsOf t = 6) (ht : P.cellTypes P.depth t = some [i, i, i, b, b, b]) (hi : P.underlying i = some (.int .i64)) (hb : P.underlying b = some .bool)
    (h : Value.okWide P W .any base t v) : ∃ (a b c : Int) (d e f : Bool), v = .agg #[.int .i64 a, .int .i64 b, .int .i64 c, .bool d, .bool e, .bool f] := by
  unfold Value.okWide at h
  rw [hu] at h
  obtain ⟨cs, rfl, hsz, ts, hts, _, hall⟩ := h
  rw [hc] at hsz
  rw [ht] at hts
  injection hts with hts
  subst hts
  have at_ : ∀ k (hk : k < 6), ∃ v, cs[k]? = some v ∧ Cell.okWide P W .any base (([i, i, i, b, b, b] : List Nat).getD k 0) v := fun k hk => by
    have h1 : k < cs.size := by omega
    obtain ⟨u, hu, hok⟩ := hall k cs[k] (by simp [h1])
    refine ⟨cs[k], by simp [h1], ?_⟩
    have h2 : k % ([i, i, i, b, b, b] : List Nat).length = k := Nat.mod_eq_of_lt hk
    rw [h2] at hu
    simp only [List.getD, hu]
    exact hok
  have int_ : ∀ v, Cell.okWide P W .any base i v → ∃ n, v = .int .i64 n := fun v hv => by
    simp only [Cell.okWide, hi] at hv
    cases v <;> simp_all [Cell.ok]
  have bool_ : ∀ v, Cell.okWide P W .any base b v → ∃ n, v = .bool n := fun v hv => by
    simp only [Cell.okWide, hb] at hv
    cases v <;> simp_all [Cell.ok]
  obtain ⟨v0, e0, o0⟩ := at_ 0 (by omega)
  obtain ⟨v1, e1, o1⟩ := at_ 1 (by omega)
  obtain ⟨v2, e2, o2⟩ := at_ 2 (by omega)
  obtain ⟨v3, e3, o3⟩ := at_ 3 (by omega)
  obtain ⟨v4, e4, o4⟩ := at_ 4 (by omega)
  obtain ⟨v5, e5, o5⟩ := at_ 5 (by omega)
  obtain ⟨x0, rfl⟩ := int_ _ o0
  obtain ⟨x1, rfl⟩ := int_ _ o1
  obtain ⟨x2, rfl⟩ := int_ _ o2
  obtain ⟨x3, rfl⟩ := bool_ _ o3
  obtain ⟨x4, rfl⟩ := bool_ _ o4
  obtain ⟨x5, rfl⟩ := bool_ _ o5
  refine ⟨x0, x1, x2, x3, x4, x5, ?_⟩
  congr 1
  apply Array.ext_getElem?
  intro k
  by_cases hk : k < 6
  · have : k = 0 ∨ k = 1 ∨ k = 2 ∨ k = 3 ∨ k = 4 ∨ k = 5 := by omega
    rcases this with rfl | rfl | rfl | rfl | rfl | rfl
    · rw [e0]; rfl
    · rw [e1]; rfl
    · rw [e2]; rfl
    · rw [e3]; rfl
    · rw [e4]; rfl
    · rw [e5]; rfl
  · rw [Array.getElem?_eq_none (by omega), Array.getElem?_eq_none (by simp; omega)]

theorem slice_gen {P : Program} {W : World} {base t e : Nat} {v : Value} (hu : P.underlying t = some (.slice e)) (h : Value.okWide P W .any base t v) : v = .slice none 0 0 ∨ ∃ blk off len cap, v = .slice (some ⟨blk, off, none⟩) len cap ∧ len ≤ cap := by
  obtain ⟨a, len, cap, rfl⟩ := okWide_slice hu h
  simp only [Value.okWide, hu, Cell.okWide] at h
  cases a with
  | none =>
    left
    cases len <;> cases cap <;> simp_all [Cell.ok]
  | some a =>
    right
    simp only [Cell.ok, hu] at h
    obtain ⟨h1, _, _, h3, _⟩ := h
    obtain ⟨blk, off, spot⟩ := a
    simp only at h3
    subst h3
    exact ⟨blk, off, len, cap, rfl, h1⟩

theorem below_of {w w' : World} (h : Go.Qa.Grown w w') : Below w.heap.size w w' := ⟨h.os, h.tape, h.output, h.size, h.old⟩

end Go.Qa.Try
end
