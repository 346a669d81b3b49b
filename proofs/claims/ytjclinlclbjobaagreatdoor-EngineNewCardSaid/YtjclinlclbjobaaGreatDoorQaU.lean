/- The statement of EngineNew's row, from the law's run. -/
import Derived.Test.YtjclinlclbjobaaGreatDoorQaO
import Derived.Test.YtjclinlclbjobaaGreatDoorQaP
import Derived.Test.YtjclinlclbjobaaGreatDoorCards
import Derived.Test.YtjclinlclbjobaaGreatDoorQaJ6
import Derived.Test.YtjclinlclbjobaaGreatDoorQaT7
import Derived.WalkKit
import Derived.ProofKit
import Derived.OpenShut
import Derived.Deep.DeepHandedRow
import Derived.Lib.LaidTab
set_option linter.all false
set_option linter.unusedVariables false
set_option linter.unusedSimpArgs false
set_option linter.unnecessarySimpa false

/- The law's contract, as the row asks for it. -/
section
namespace Go.Qa.Try
open Go.Proofs Go.Qa Go.ChangeShapes Go.WideShapes Go.RowKit

set_option maxRecDepth 100000 in
theorem read3 : Tryz.prog.readableRec 3 = true := by kernel_rfl
set_option maxRecDepth 100000 in
theorem read23 : Tryz.prog.readableRec 23 = true := by kernel_rfl
set_option maxRecDepth 100000 in
theorem read24 : Tryz.prog.readableRec 24 = true := by kernel_rfl
theorem row_lt {t : Nat} (h : t < 881) : t < Tryz.prog.types.size := by rw [sizeT]; exact h

set_option maxRecDepth 100000 in
theorem agg_of {W : World} {base : Nat} {v : Value} (h : Value.okWide Tryz.prog W .any base 23 v) : ∃ (a b c : Int) (d e f : Bool), v = .agg #[.int .i64 a, .int .i64 b, .int .i64 c, .bool d, .bool e, .bool f] := by
  have hx := @agg_gen Tryz.prog W base 23 3 4 _ v Tryz.underlying23 cells23 types23 Tryz.underlying3 Tryz.underlying4 h
  assumption
set_option maxRecDepth 100000 in
theorem slice_of {W : World} {base : Nat} {v : Value} (h : Value.okWide Tryz.prog W .any base 24 v) : v = .slice none 0 0 ∨ ∃ blk off len cap, v = .slice (some ⟨blk, off, none⟩) len cap ∧ len ≤ cap := by
  have hx := @slice_gen Tryz.prog W base 24 5 v Tryz.underlying24 h
  assumption

/-- five arguments, in a world that has grown -/
theorem args_stay {H : Type} {enc : TypeId × Value → H} {P : Program} (hl : laidOutB P = true) {W W' : World} (hb : Below W.heap.size W W') : ∀ {ts : List TypeId} {vs : List Value} {ds : List (DataW H)} {ps : List MemPlace}, (∀ t ∈ ts, P.readableRec t = true ∧ t < P.types.size) →
    DataW.TrodAll enc P W 0 (fun _ => true) true ts vs ds ps → (∀ x ∈ ps, x.block < W.heap.size) → DataW.TrodAll enc P W' 0 (fun b => decide (b < W.heap.size)) true ts vs ds ps
  | [], vs, ds, ps, _, h, _ => by
    obtain ⟨rfl, rfl, rfl⟩ := trodAll_nil h
    exact trodAll_mk0
  | t :: ts, vs, ds, ps, hr, h, hlt => by
    obtain ⟨v, vs', d, ds', p, q, rfl, rfl, rfl, h1, h2⟩ := trodAll_cons h
    obtain ⟨r1, r2⟩ := hr t List.mem_cons_self
    exact trodAll_cons_mk (Below.trod hl r1 r2 h1 hb fun x hx => hlt x (List.mem_append_left _ hx)) (args_stay hl hb (fun t ht => hr t (List.mem_cons_of_mem _ ht)) h2 fun x hx => hlt x (List.mem_append_right _ hx))

theorem post_gen {H : Type} {enc : TypeId × Value → H} {P : Program} {f : Func} {s : ChangeSpec} {b : Nat} (hl : laidOutB P = true) (hvars : s.vars = []) (hres : f.resultTypes = #[b]) (hub : P.underlying b = some .bool) {W W' : World} {args : Array Value} {ds gs : List (DataW H)} {before : List MemPlace}
    (hfn : s.fn H (ds ++ gs) = { results := [.lit (.bool true)], args := ds }) (hr : ∀ t ∈ f.params.toList, P.readableRec t = true ∧ t < P.types.size)
    (hW : DataW.Whole enc P f.params.toList s.vars false W args.toList ds gs before) (hb : Below W.heap.size W W') : s.post enc P f false true false false W args (.bool true) W' := by
  have hW' := hW
  obtain ⟨p, q, hA, hV, rfl, hfz, hnd⟩ := hW
  rw [hvars] at hV
  obtain ⟨rfl, rfl⟩ := trodVars_none hV
  refine ⟨ds, [], p ++ [], [], p, [], hW', ?_, ?_, ?_, hb.frame _, fun h => by cases h⟩
  · rw [hfn, hres]
    exact trodAll_mk1 (shut_bool hub true)
  · rw [hfn]
    exact args_stay hl hb hr hA fun x hx => hW'.lt x (by simpa using hx)
  · rw [hvars, hfn]
    rfl

set_option maxRecDepth 100000 in
theorem contract {H : Type} {enc : TypeId × Value → H} {s : ChangeSpec} (hvars : s.vars = []) (hfn : ∀ d1 d2 d3 d4 d5, s.fn H [d1, d2, d3, d4, d5] = { results := [.lit (.bool true)], args := [d1, d2, d3, d4, d5] })
    (W : World) (base : Nat) (args : Array Value) (ds gs : List (DataW H)) (before : List MemPlace)
    (hval0 : ∀ (j : Nat) t v, Tryz.f3.params[j]? = some t → args[j]? = some v → Value.okWide Tryz.prog W .any base t v)
    (hW : DataW.Whole enc Tryz.prog Tryz.f3.params.toList s.vars false W args.toList ds gs before) (ht : Lib.TabIs Tryz.prog W "internal/strconv.uint64pow10" .u64 tensI) (hS : W.ShapedOpen Tryz.prog) :
    Calls Tryz.prog 3 args W fun e W' => ∃ v, e = .returned v ∧ s.post enc Tryz.prog Tryz.f3 false true false false W args v W' := by
  have hval : ∀ (j : Nat) t v, Tryz.f3.params[j]? = some t → args[j]? = some v → Value.okWide Tryz.prog W .any base t v := hval0
  have hW' := hW
  have hW2 := hW
  obtain ⟨p, q, hA0, hV, rfl, hfz, hnd⟩ := hW
  have hA : DataW.TrodAll enc Tryz.prog W 0 (fun _ => true) true Tryz.f3.params.toList args.toList ds p := hA0
  rw [Tryz.params3] at hA hval
  obtain ⟨v0, vs0, d0, ds0, p0, q0, hargs, rfl, rfl, h0, r0⟩ := trodAll_cons hA
  obtain ⟨v1, vs1, d1, ds1, p1, q1, rfl, rfl, rfl, h1, r1⟩ := trodAll_cons r0
  obtain ⟨v2, vs2, d2, ds2, p2, q2, rfl, rfl, rfl, h2, r2⟩ := trodAll_cons r1
  obtain ⟨v3, vs3, d3, ds3, p3, q3, rfl, rfl, rfl, h3, r3⟩ := trodAll_cons r2
  obtain ⟨v4, vs4, d4, ds4, p4, q4, rfl, rfl, rfl, h4, r4⟩ := trodAll_cons r3
  obtain ⟨rfl, rfl, rfl⟩ := trodAll_nil r4
  obtain rfl : args = #[v0, v1, v2, v3, v4] := by cases args; simp_all
  rw [hvars] at hV
  obtain ⟨rfl, rfl⟩ := trodVars_none hV
  obtain ⟨a, b, c, e1, e2, e3, rfl⟩ := agg_of (hval 0 23 v0 rfl rfl)
  obtain ⟨rm, rfl⟩ := okWide_int Tryz.underlying3 (hval 1 3 v1 rfl rfl)
  obtain ⟨kp, rfl⟩ := okWide_int Tryz.underlying3 (hval 2 3 v2 rfl rfl)
  have hsl := slice_of (hval 3 24 v3 rfl rfl)
  obtain ⟨nw, rfl⟩ := okWide_int Tryz.underlying3 (hval 4 3 v4 rfl rfl)
  have hb0 := block0 ht hS
  have hr : ∀ t ∈ Tryz.f3.params.toList, Tryz.prog.readableRec t = true ∧ t < Tryz.prog.types.size := by
    intro t ht
    rw [Tryz.params3] at ht
    have : t = 23 ∨ t = 3 ∨ t = 24 := by
      simp only [List.mem_cons, List.not_mem_nil, or_false] at ht
      rcases ht with h | h | h | h | h
      · exact .inl h
      · exact .inr (.inl h)
      · exact .inr (.inl h)
      · exact .inr (.inr h)
      · exact .inr (.inl h)
    rcases this with rfl | rfl | rfl
    · exact ⟨read23, row_lt (by omega)⟩
    · exact ⟨read3, row_lt (by omega)⟩
    · exact ⟨read24, row_lt (by omega)⟩
  have walk := law_all hb0 a b c rm kp nw e1 e2 e3 hsl
  refine walk.mono ?_
  rintro e W' ⟨rfl, hg⟩
  refine ⟨_, rfl, ?_⟩
  have hp := @post_gen H enc Tryz.prog Tryz.f3 s 4 laid3 hvars (by kernel_rfl) Tryz.underlying4 W W' _ _ [] _ (by rw [List.append_nil]; exact hfn d0 d1 d2 d3 d4) hr hW2 (below_of hg)
  exact hp

end Go.Qa.Try
end

/- The row's statement, and the card. -/
section
namespace Go.Proofs.YtjclinlclbjobaaGreatDoor
open Go.ChangeShapes Go.WideShapes Go.ChangeAt Go.RowKit

theorem own : ownKnob Tryz.prog.godebug = none := by kernel_rfl

theorem laid_plain (W : World) : laidMetH Tryz.prog Rows.engineNewRow.laid W = laidMet Tryz.prog (("internal/strconv.uint64pow10", Lib.tabData .u64 Go.Qa.Try.tensI) :: Rows.engineNewRow.laid.tail) W := by kernel_rfl
set_option maxRecDepth 100000 in
theorem table {W : World} (h : laidMetH Tryz.prog Rows.engineNewRow.laid W) : Lib.TabIs Tryz.prog W "internal/strconv.uint64pow10" .u64 Go.Qa.Try.tensI := by
  rw [laid_plain] at h
  exact Lib.tabIs_of_head Go.Qa.Try.gTab Go.Qa.Try.gTabType Tryz.underlying585 Tryz.underlying206 (by kernel_rfl) Go.Qa.Try.cells585 h

/-- The numbers of a datum, in order. -/
def litOf : DataW Unit → List Value
  | .lit (.int k z) => [.int k z]
  | _ => []
def cellsOf2 : DataW Unit → List Value
  | .agg l => l.flatMap fun d => match d with
    | .agg m => m.flatMap litOf
    | d => litOf d
  | d => litOf d
def layAt (g : Nat) (d : DataW Unit) (h : Array Obj) : Array Obj := h.modify g fun
  | .cells _ t frozen => .cells (cellsOf2 d).toArray t frozen
  | o => o
/-- A world for the witness: the settled one, the five tables laid. -/
noncomputable def laidWorld (os : Os) : World :=
  { World.holding Tryz.prog os ⟨#[], #[], []⟩ with heap := layAt 5 Rows.laid_unicode_utf8_acceptRanges (layAt 4 Rows.laid_unicode_utf8_first (layAt 3 Rows.laid_math_bits_deBruijn64tab (layAt 2 Rows.laid_math_bits_deBruijn32tab (layAt 0 Rows.laid_internal_strconv_uint64pow10 (World.holding Tryz.prog os ⟨#[], #[], []⟩).heap)))) }
def argsW : Array Value := #[.agg #[.int .i64 0, .int .i64 0, .int .i64 0, .bool false, .bool false, .bool false], .int .i64 0, .int .i64 0, .slice none 0 0, .int .i64 0]
end Go.Proofs.YtjclinlclbjobaaGreatDoor
end
