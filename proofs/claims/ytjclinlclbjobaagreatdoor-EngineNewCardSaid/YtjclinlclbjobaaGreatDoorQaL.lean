/- Steps on the way to the card of EngineNew: the fixed play's contract. -/
import Derived.Test.YtjclinlclbjobaaGreatDoorQaK1
import Derived.Test.YtjclinlclbjobaaGreatDoorQaK2
import Derived.Test.YtjclinlclbjobaaGreatDoorQaK3
import Derived.Test.YtjclinlclbjobaaGreatDoorQaK4
import Derived.Test.YtjclinlclbjobaaGreatDoorQaK5
import Derived.Test.YtjclinlclbjobaaGreatDoorQaK6
import Derived.Test.YtjclinlclbjobaaGreatDoorQaK7
import Derived.Test.YtjclinlclbjobaaGreatDoorQaK8
import Derived.Test.YtjclinlclbjobaaGreatDoorQaK9
import Derived.Test.YtjclinlclbjobaaGreatDoorQaK10
import Derived.Test.YtjclinlclbjobaaGreatDoorQaK11
import Derived.Test.YtjclinlclbjobaaGreatDoorQaK12
import Derived.Test.YtjclinlclbjobaaGreatDoorQaK13
import Derived.Test.YtjclinlclbjobaaGreatDoorQaK14
import Derived.Test.YtjclinlclbjobaaGreatDoorQaE
import Derived.Test.YtjclinlclbjobaaGreatDoorQaD
import Derived.Test.YtjclinlclbjobaaGreatDoorQaF
set_option linter.all false
set_option linter.unusedVariables false
set_option linter.unusedSimpArgs false
set_option linter.unnecessarySimpa false

/- The parts of the fixed play, laid one behind another. -/
section
namespace Go.Qa.Try
open Go.Proofs
attribute [local irreducible] prog
/-- the functions whose bodies are told in parts -/
def okF : Env := ⟨fun g => g = 8 ∨ g = 9 ∨ g = 16 ∨ g = 17, fun _ _ _ _ _ => False⟩
theorem seqZ {n m next base : Nat} {wr : List Nat} {c c1 : ACode} {R R1 : RF} {s : St} {l : List (Nat × AO)} {res : List ARes} {v : AV} {t : St} (e : c1 = restR c m) (h : seqB n (cutR c m) R s R1 l next base wr = true)
    (hr : PartR prog okF c1 res ⟨n, R1, .nil⟩ (stL l next base wr) v t) : PartR prog okF c res ⟨n, R, .nil⟩ s v t := by
  subst e; exact seqPart h hr
theorem endZ {n next base : Nat} {wr : List Nat} {c : ACode} {R : RF} {s : St} {l : List (Nat × AO)} {res : List ARes} {v : AV} (h : endB n c res R s v l next base wr = true) : PartR prog okF c res ⟨n, R, .nil⟩ s v (stL l next base wr) := endPart h
theorem splitZ {n i x1 x2 x3 y1 y2 y3 : Nat} {w1 w2 w3 : List Nat} {c c1 : ACode} {R R1 R2 R3 : RF} {s : St} {l1 l2 l3 : List (Nat × AO)} {res : List ARes} {v : AV} {t : St} (e : c1 = restR c 0) (hc : isSeqRegion2 c = true)
    (h1 : opsB n (takeO i (regOps2 c)) R s R1 l1 x1 y1 w1 = true) (h2 : opsB n (dropO i (regOps2 c)) R1 (stL l1 x1 y1 w1) R2 l2 x2 y2 w2 = true) (h3 : seqB n (condOf c) R2 (stL l2 x2 y2 w2) R3 l3 x3 y3 w3 = true)
    (hr : PartR prog okF c1 res ⟨n, R3, .nil⟩ (stL l3 x3 y3 w3) v t) : PartR prog okF c res ⟨n, R, .nil⟩ s v t := by
  subst e; exact splitPart2 hc (opsPart h1) (opsPart h2) (normPart h3) hr
theorem some_af {g : Nat} (h : (prog g).isSome = true) : prog g = some (afOf g) := by
  unfold afOf
  cases hp : prog g with
  | none => rw [hp] at h; cases h
  | some af => rfl
theorem callZ {n n1 i g dst next base next2 base2 next4 base4 : Nat} {wr wr2 wr3 wr4 : List Nat} {c c1 : ACode} {args : List AV} {R R0 R1 R2 R4 : RF} {s : St} {L L2 L4 : List (Nat × AO)} {res : List ARes} {v vv : AV} {t : St} (e : c1 = restR c 0) (hc : isSeqRegion c = true)
    (h1 : opsB n (takeO i (regOps c)) R s R1 L next base wr = true) (hcall : isCall (dropO i (regOps c)) ⟨n, R1, .nil⟩ g args (some dst) = true) (hp : (prog g).isSome = true) (hk : okF.ok g)
    (hT0 : startT args 0 ⟨Nat.max (afOf g).ntmps (llen args), blank, .nil⟩ = ⟨n1, R0, .nil⟩) (hbody : PartR prog okF (afOf g).body (afOf g).res ⟨n1, R0, .nil⟩ (stL L next next []) vv (stL L2 next2 base2 wr2))
    (hw : nsEq (noteAll (stL L next base wr) wr2) wr3 = true) (hT2 : (⟨n, R1, .nil⟩ : Tmps).putO (some dst) vv = ⟨n, R2, .nil⟩) (h3 : opsB n (dropO (i + 1) (regOps c)) R2 (stL L2 next2 base wr3) R4 L4 next4 base4 wr4 = true)
    (hr : PartR prog okF c1 res ⟨n, R4, .nil⟩ (stL L4 next4 base4 wr4) v t) : PartR prog okF c res ⟨n, R, .nil⟩ s v t := by
  subst e; exact callPart hc (opsPart h1) hcall (some_af hp) hk hT0 hbody hw hT2 (opsPart h3) hr
theorem z10 : PartR prog okF c9_4 (afOf 9).res ⟨68, R13, .nil⟩ (stL L13 9477 7472 []) (.tup [.agg [I 1, I 0, I 0, I 0], I 0]) (stL L14 11103 7472 []) := endZ q12
theorem z9 : PartR prog okF c9_0 (afOf 9).res ⟨68, R12, .nil⟩ (stL L11 7472 7472 []) (.tup [.agg [I 1, I 0, I 0, I 0], I 0]) (stL L14 11103 7472 []) := seqZ e9_4 q11 z10
theorem z11 : PartR prog okF c8_5 (afOf 8).res ⟨62, R15, .nil⟩ (stL L15 11104 7468 []) (.tup [.agg [I 1, I 0, I 0, I 0], I 0]) (stL L16 11142 7468 [4246, 7467]) := endZ q14
theorem z8 : PartR prog okF c8_4 (afOf 8).res ⟨62, R10, .nil⟩ (stL L10 7472 7468 []) (.tup [.agg [I 1, I 0, I 0, I 0], I 0]) (stL L16 11142 7468 [4246, 7467]) := callZ (args := [.ptr 4258 0, .slo 2434 0 153 1, I 20, .nilsl, .nilsl]) (dst := 45) (g := 9) (R0 := R12) e8_5 (by kernel_rfl) q10 (by kernel_rfl) (by kernel_rfl) (.inr (.inl rfl)) (by kernel_rfl) z9 (by kernel_rfl) (by kernel_rfl) q13 z11
theorem z7 : PartR prog okF c8_0 (afOf 8).res ⟨62, R9, .nil⟩ (stL L8 7468 7468 []) (.tup [.agg [I 1, I 0, I 0, I 0], I 0]) (stL L16 11142 7468 [4246, 7467]) := seqZ e8_4 q9 z8
theorem z14 : PartR prog okF c17_6 (afOf 17).res ⟨66, R20, .nil⟩ (stL L20 12884 11143 []) (I 0) (stL L21 13549 11143 [4246, 4247, 4253, 4258, 7466]) := endZ q18
theorem z13 : PartR prog okF c17_0 (afOf 17).res ⟨66, R19, .nil⟩ (stL L18 11143 11143 []) (I 0) (stL L21 13549 11143 [4246, 4247, 4253, 4258, 7466]) := seqZ e17_6 q17 z14
theorem z19 : PartR prog okF c9_4 (afOf 9).res ⟨68, R28, .nil⟩ (stL L28 15558 13553 []) (.tup [.agg [I 2, I 9, I 0, I 0], I 0]) (stL L29 19627 13553 []) := endZ q24
theorem z18 : PartR prog okF c9_0 (afOf 9).res ⟨68, R27, .nil⟩ (stL L26 13553 13553 []) (.tup [.agg [I 2, I 9, I 0, I 0], I 0]) (stL L29 19627 13553 []) := seqZ e9_4 q23 z19
theorem z20 : PartR prog okF c8_5 (afOf 8).res ⟨62, R30, .nil⟩ (stL L30 19628 13549 []) (.tup [.agg [I 2, I 9, I 0, I 0], I 0]) (stL L31 19677 13549 [4246, 13548]) := endZ q26
theorem z17 : PartR prog okF c8_4 (afOf 8).res ⟨62, R25, .nil⟩ (stL L25 13553 13549 []) (.tup [.agg [I 2, I 9, I 0, I 0], I 0]) (stL L31 19677 13549 [4246, 13548]) := callZ (args := [.ptr 4258 0, .slo 2434 0 153 1, I 20, .nilsl, .nilsl]) (dst := 45) (g := 9) (R0 := R27) e8_5 (by kernel_rfl) q22 (by kernel_rfl) (by kernel_rfl) (.inr (.inl rfl)) (by kernel_rfl) z18 (by kernel_rfl) (by kernel_rfl) q25 z20
theorem z16 : PartR prog okF c8_0 (afOf 8).res ⟨62, R24, .nil⟩ (stL L23 13549 13549 []) (.tup [.agg [I 2, I 9, I 0, I 0], I 0]) (stL L31 19677 13549 [4246, 13548]) := seqZ e8_4 q21 z17
theorem z25 : PartR prog okF c9_4 (afOf 9).res ⟨68, R38, .nil⟩ (stL L38 21688 19683 []) (.tup [.agg [I 0, I 0, I 0, I 14], I 0]) (stL L39 22151 19683 []) := endZ q32
theorem z24 : PartR prog okF c9_0 (afOf 9).res ⟨68, R37, .nil⟩ (stL L36 19683 19683 []) (.tup [.agg [I 0, I 0, I 0, I 14], I 0]) (stL L39 22151 19683 []) := seqZ e9_4 q31 z25
theorem z26 : PartR prog okF c8_5 (afOf 8).res ⟨62, R40, .nil⟩ (stL L40 22152 19678 [4246, 13548]) (.tup [.agg [I 0, I 0, I 0, I 14], I 0]) (stL L41 22201 19678 [4246, 13548]) := endZ q34
theorem z23 : PartR prog okF c8_4 (afOf 8).res ⟨62, R35, .nil⟩ (stL L35 19683 19678 [4246, 13548]) (.tup [.agg [I 0, I 0, I 0, I 14], I 0]) (stL L41 22201 19678 [4246, 13548]) := callZ (args := [.ptr 4258 0, .slo 2434 0 153 1, I 51, .nilsl, .nilsl]) (dst := 45) (g := 9) (R0 := R37) e8_5 (by kernel_rfl) q30 (by kernel_rfl) (by kernel_rfl) (.inr (.inl rfl)) (by kernel_rfl) z24 (by kernel_rfl) (by kernel_rfl) q33 z26
theorem z22 : PartR prog okF c8_0 (afOf 8).res ⟨62, R34, .nil⟩ (stL L33 19678 19678 []) (.tup [.agg [I 0, I 0, I 0, I 14], I 0]) (stL L41 22201 19678 [4246, 13548]) := seqZ e8_4 q29 z23
theorem z27 : PartR prog okF c15_19 af15.res ⟨161, R42, .nil⟩ (stL L42 22202 10 []) (.bool true) (stL L43 22203 10 []) := endZ q36
theorem z21 : PartR prog okF c15_18 af15.res ⟨161, R32, .nil⟩ (stL L32 19678 10 []) (.bool true) (stL L43 22203 10 []) := callZ (args := [.ptr 4258 0, .slo 2434 0 153 1, I 51, .nilsl]) (dst := 129) (g := 8) (R0 := R34) e15_19 (by kernel_rfl) q28 (by kernel_rfl) (by kernel_rfl) (.inl rfl) (by kernel_rfl) z22 (by kernel_rfl) (by kernel_rfl) q35 z27
theorem z15 : PartR prog okF c15_17 af15.res ⟨161, R22, .nil⟩ (stL L22 13549 10 []) (.bool true) (stL L43 22203 10 []) := callZ (args := [.ptr 4258 0, .slo 2434 0 153 1, I 20, .nilsl]) (dst := 123) (g := 8) (R0 := R24) e15_18 (by kernel_rfl) q20 (by kernel_rfl) (by kernel_rfl) (.inl rfl) (by kernel_rfl) z16 (by kernel_rfl) (by kernel_rfl) q27 z21
theorem z12 : PartR prog okF c15_16 af15.res ⟨161, R17, .nil⟩ (stL L17 11143 10 []) (.bool true) (stL L43 22203 10 []) := callZ (args := [.ptr 4258 0, .slo 4242 0 135 1]) (dst := 119) (g := 17) (R0 := R19) e15_17 (by kernel_rfl) q16 (by kernel_rfl) (by kernel_rfl) (.inr (.inr (.inr rfl))) (by kernel_rfl) z13 (by kernel_rfl) (by kernel_rfl) q19 z15
theorem z6 : PartR prog okF c15_15 af15.res ⟨161, R7, .nil⟩ (stL L7 7468 10 []) (.bool true) (stL L43 22203 10 []) := callZ (args := [.ptr 4258 0, .slo 2434 0 153 1, I 20, .nilsl]) (dst := 114) (g := 8) (R0 := R9) e15_16 (by kernel_rfl) q8 (by kernel_rfl) (by kernel_rfl) (.inl rfl) (by kernel_rfl) z7 (by kernel_rfl) (by kernel_rfl) q15 z12
theorem z5 : PartR prog okF c15_14 af15.res ⟨161, R4, .nil⟩ (stL L4 4259 10 []) (.bool true) (stL L43 22203 10 []) := splitZ e15_15 (by kernel_rfl) q5 q6 q7 z6
theorem z4 : PartR prog okF c15_11 af15.res ⟨161, R3, .nil⟩ (stL L3 3295 10 []) (.bool true) (stL L43 22203 10 []) := seqZ e15_14 q4 z5
theorem z3 : PartR prog okF c15_9 af15.res ⟨161, R2, .nil⟩ (stL L2 2435 10 []) (.bool true) (stL L43 22203 10 []) := seqZ e15_11 q3 z4
theorem z2 : PartR prog okF c15_8 af15.res ⟨161, R1, .nil⟩ (stL L1 1256 10 []) (.bool true) (stL L43 22203 10 []) := seqZ e15_9 q2 z3
theorem z1 : PartR prog okF c15_0 af15.res ⟨161, R0, .nil⟩ (stL L0 10 10 []) (.bool true) (stL L43 22203 10 []) := seqZ e15_8 q1 z2
/-- the fixed play, whole -/
theorem known_parts : PartR prog okF af15.body af15.res ⟨161, R0, .nil⟩ (stL L0 10 10 []) (.bool true) (stL L43 22203 10 []) := z1
end Go.Qa.Try
end

/- A closed call that reads one variable: its contract wherever it is made. -/
section
namespace Go.Qa
variable {P : Program} {C : Ctx} {F : Fence}

def isInt : AV → Bool
  | .int _ _ => true
  | _ => false
theorem ints_move {σ σ' : Sig} : ∀ (l : List AV) (cs : List Value), l.all isInt = true → VRels σ l cs → VRels σ' l cs
  | [], cs, _, r => by cases r; exact .nil
  | v :: l, cs, h, r => by
    rw [List.all_cons, Bool.and_eq_true] at h
    cases r with
    | cons _ c _ cs x y =>
      refine .cons _ _ _ _ ?_ (ints_move l cs h.2 y)
      cases x <;> first | exact .int _ _ | (cases h.1)

/-- a world that has grown -/
theorem post_more {σ : Sig} {s : St} {w w' : World} (h : HRel C σ s.get w) (hh : ∀ b, b < w.heap.size → w'.heap[b]? = w.heap[b]?) (hs : w.heap.size ≤ w'.heap.size) (e1 : w'.os = w.os) (e2 : w'.tape = w.tape) (e3 : w'.output = w.output) : Post C σ s w σ s w' where
  ext := ⟨fun _ _ h => h, fun _ _ h h' => by rw [h] at h'; cases h'⟩
  rel := h.less (fun _ _ h => h) (fun _ _ h => h) (fun id p hg hp => by
    obtain ⟨q, hq, hlt⟩ := h.sig hg
    rw [hp] at hq; injection hq with hq; subst hq
    exact hh _ hlt)
  size := hs
  frame := fun b hb _ => hh b hb
  fresh := fun _ _ h h' => by rw [h] at h'; cases h'
  next := Nat.le_refl _
  base := rfl
  hid := rfl
  wr := fun _ h => h
  os := e1
  tape := e2
  output := e3
  kept := fun _ h => .inl h

/-- what is left of a world behind a call that writes nothing old -/
structure Grown (w w' : World) : Prop where
  old : ∀ b, b < w.heap.size → w'.heap[b]? = w.heap[b]?
  size : w.heap.size ≤ w'.heap.size
  os : w'.os = w.os
  tape : w'.tape = w.tape
  output : w'.output = w.output

theorem fixed_calls {prog : Nat → Option AFun} {copy : Nat} {cop : AFun} (H : ProgIs C P prog copy cop) (hF : FOk F) (hF0 : F.round = none) {f : Nat} {af : AFun} (hc : Compiled C P f af) {ok : Env} (hE : ∀ g af, ok.ok g → prog g = some af → Compiled C P g af) (hct : CtOk C P F ok)
    {c : List AV} {el n next next1 : Nat} {R0 : RF} {L1 : List (Nat × AO)} {v : AV} (hT0 : startT [] 0 ⟨Nat.max af.ntmps 0, blank, .nil⟩ = ⟨n, R0, .nil⟩) (hpart : PartR prog ok af.body af.res ⟨n, R0, .nil⟩ (stL [(0, .cells c el false)] next next []) v (stL L1 next1 next []))
    (hint : c.all isInt = true) (hg : ∀ g, C.glob g = true → g = 0) (hpos : 0 < next)
    {σ : Sig} {H0 : Nat → Option AO} {w : World} (hH : HRel C σ H0 w) (hget : H0 0 = some (.cells c el false)) (G : GOk C σ) (k : Nat) :
    CallsIn F k P f #[] w fun e w' => ∃ x σ', e = .returned x ∧ VRel σ' v x ∧ Grown w w' := by
  obtain ⟨T2, s2, hrun, hres, hless⟩ := hpart
  let s0 : St := stL [(0, .cells c el false)] next next []
  let σ0 : Sig := fun id => if id = 0 then σ 0 else none
  have h0 : ∀ id o, s0.get id = some o → id = 0 ∧ o = .cells c el false := by
    intro id o ho
    have : (heapOf [(0, AO.cells c el false)]).get id = some o := by
      unfold St.get at ho
      split at ho
      · split at ho
        · cases ho
        · exact ho
      · cases ho
    have := heapOf_get this
    simp at this
    exact this
  obtain ⟨p, hp, hrel⟩ := hH.obj 0 _ hget
  have hH0 : HRel C σ0 s0.get w := {
    obj := fun id o ho => by
      obtain ⟨rfl, rfl⟩ := h0 id o ho
      refine ⟨p, by show (if (0 : Nat) = 0 then σ 0 else none) = _; rw [if_pos rfl, hp], ?_⟩
      obtain ⟨cc, fr, a, b, d, e, f⟩ := hrel
      exact ⟨cc, fr, a, b, d, ints_move _ _ hint e, f⟩
    apart := fun i j pi pj hi hj hne hpi hpj => by
      have key : ∀ i, s0.get i ≠ none → i = 0 := fun i hi => by
        cases hx : s0.get i with
        | none => exact absurd hx hi
        | some o => exact (h0 i o hx).1
      exact absurd ((key i hi).trans (key j hj).symm) hne }
  have G0 : GOk C σ0 := fun g hgl => by
    have := hg g hgl; subst this
    obtain ⟨own, ho⟩ := G 0 hgl
    exact ⟨own, by show (if (0 : Nat) = 0 then σ 0 else none) = _; rw [if_pos rfl, ho]⟩
  have hcode := fun n => (H.all hF hF0 n).1
  have hcall := fun n => (H.all hF hF0 n).2
  have main := call_of_parts (v := v) H.ctx hF hF0 hE hcode hcall hct hc (.inr rfl) (args := []) (s := s0) (by rw [show llen ([] : List AV) = 0 from rfl, hT0]; exact hrun) hres k σ0 w #[] hH0 G0 .nil (fun id h1 _ => by
    show (if id = 0 then σ 0 else none) = none
    have : next ≤ id := h1
    rw [if_neg (by omega)])
  refine CallsIn.mono main ?_
  rintro e w2 ⟨x, rfl, σ', q, hv⟩
  refine ⟨x, σ', rfl, hv, ⟨fun b hb => q.frame b hb fun id p' h1 h2 h3 => ?_, q.size, q.os, q.tape, q.output⟩⟩
  have hwr : s2.wr = [] := hless.wr.symm
  have e0 : id = 0 := by
    cases hx : s0.get id with
    | none => exact absurd hx h3
    | some o => exact (h0 id o hx).1
  subst e0
  refine ⟨hpos, ?_⟩
  rw [hwr]
  show 0 ∉ noteAll s0 []
  unfold noteAll
  exact List.not_mem_nil

/-- the same, as a contract in a run in parts: the call tells true, and the state stands -/
def fixedEnv (f : Nat) (c : List AV) (el : Nat) (ok : Nat → Prop) : Env := ⟨ok, fun g args s v s' => g = f ∧ args = [] ∧ v = .bool true ∧ s' = s ∧ s.get 0 = some (.cells c el false)⟩
theorem fixed_ct {prog : Nat → Option AFun} {copy : Nat} {cop : AFun} (H : ProgIs C P prog copy cop) (hF : FOk F) (hF0 : F.round = none) {f : Nat} {af : AFun} (hc : Compiled C P f af) {ok : Env} (hE : ∀ g af, ok.ok g → prog g = some af → Compiled C P g af) (hno : ∀ g args s v s', ¬ ok.ct g args s v s')
    {c : List AV} {el n next next1 : Nat} {R0 : RF} {L1 : List (Nat × AO)} (hT0 : startT [] 0 ⟨Nat.max af.ntmps 0, blank, .nil⟩ = ⟨n, R0, .nil⟩) (hpart : PartR prog ok af.body af.res ⟨n, R0, .nil⟩ (stL [(0, .cells c el false)] next next []) (.bool true) (stL L1 next1 next []))
    (hint : c.all isInt = true) (hg : ∀ g, C.glob g = true → g = 0) (hpos : 0 < next) (ok' : Nat → Prop) : CtOk C P F (fixedEnv f c el ok') := by
  have hct : CtOk C P F ok := fun g args s v s' h => absurd h (hno g args s v s')
  intro g args s v s' h k σ w cargs hb hH G hv hn
  obtain ⟨rfl, rfl, rfl, rfl, hget⟩ := h
  have : cargs = #[] := by
    cases cargs with
    | mk l => cases l with
      | nil => rfl
      | cons a b => cases hv
  subst this
  rw [hc.enter]
  show CallsIn F k P g #[] w _
  refine CallsIn.mono (fixed_calls H hF hF0 hc hE hct hT0 hpart hint hg hpos hH hget G k) ?_
  rintro e w' ⟨x, σ', rfl, hv', gr⟩
  cases hv'
  exact ⟨_, rfl, σ, post_more hH gr.old gr.size gr.os gr.tape gr.output, .bool true⟩

/-- a call of a function that is told in parts, from a state of listed blocks -/
theorem part_calls {prog : Nat → Option AFun} {copy : Nat} {cop : AFun} (H : ProgIs C P prog copy cop) (hF : FOk F) (hF0 : F.round = none) {f : Nat} {af : AFun} (hc : Compiled C P f af) {ok : Env} (hE : ∀ g af, ok.ok g → prog g = some af → Compiled C P g af) (hct : CtOk C P F ok)
    {args : List AV} {n : Nat} {R0 : RF} {s t : St} {v : AV} (hT0 : startT args 0 ⟨Nat.max af.ntmps (llen args), blank, .nil⟩ = ⟨n, R0, .nil⟩) (hs : s = ⟨s.heap, s.next, s.next, [], []⟩) (hpart : PartR prog ok af.body af.res ⟨n, R0, .nil⟩ s v t) (hw : t.wr = [])
    {σ : Sig} {w : World} {cargs : Array Value} (hH : HRel C σ s.get w) (G : GOk C σ) (hv : VRels σ args cargs.toList) (hfresh : ∀ id, s.next ≤ id → σ id = none) (k : Nat) :
    CallsIn F k P f cargs w fun e w' => ∃ x σ', e = .returned x ∧ VRel σ' v x ∧ Grown w w' := by
  obtain ⟨T2, s2, hrun, hres, hless⟩ := hpart
  have hhid : s.hid = [] := by rw [hs]
  have hwr0 : s.wr = [] := by rw [hs]
  have hcode := fun n => (H.all hF hF0 n).1
  have hcall := fun n => (H.all hF hF0 n).2
  have main := call_of_parts (v := v) H.ctx hF hF0 hE hcode hcall hct hc (.inr rfl) (args := args) (s := s) (by rw [hT0, hhid, ← hs]; exact hrun) hres k σ w cargs hH G hv (fun id h1 _ => hfresh id h1)
  refine CallsIn.mono main ?_
  rintro e w2 ⟨x, rfl, σ', q, hv⟩
  refine ⟨x, σ', rfl, hv, ⟨fun b hb => q.frame b hb fun id p' h1 h2 h3 => ?_, q.size, q.os, q.tape, q.output⟩⟩
  have hwr : s2.wr = [] := hless.wr.symm.trans hw
  have hbase : s.base = s.next := by rw [hs]
  refine ⟨by rw [hbase]; exact (get_lt h3).1, ?_⟩
  show id ∉ noteAll s s2.wr
  rw [hwr]
  unfold noteAll
  rw [hwr0]
  exact List.not_mem_nil

/-- both: a call that is told in parts, in which the fixed one is made -/
theorem whole_calls {prog : Nat → Option AFun} {copy : Nat} {cop : AFun} (H : ProgIs C P prog copy cop) (hF : FOk F) (hF0 : F.round = none)
    {f : Nat} {af : AFun} (hc : Compiled C P f af) {ok : Env} (hE : ∀ g af, ok.ok g → prog g = some af → Compiled C P g af) (hno : ∀ g args s v s', ¬ ok.ct g args s v s')
    {c : List AV} {el n next next1 : Nat} {R0 : RF} {L1 : List (Nat × AO)} (hT0 : startT [] 0 ⟨Nat.max af.ntmps 0, blank, .nil⟩ = ⟨n, R0, .nil⟩) (hpart : PartR prog ok af.body af.res ⟨n, R0, .nil⟩ (stL [(0, .cells c el false)] next next []) (.bool true) (stL L1 next1 next []))
    (hint : c.all isInt = true) (hg : ∀ g, C.glob g = true → g = 0) (hpos : 0 < next)
    {f3 : Nat} {af3 : AFun} (hc3 : Compiled C P f3 af3) {ok3 : Nat → Prop} (hE3 : ∀ g af, ok3 g → prog g = some af → Compiled C P g af)
    {args : List AV} {n3 : Nat} {R3 : RF} {s t : St} {v : AV} (hT3 : startT args 0 ⟨Nat.max af3.ntmps (llen args), blank, .nil⟩ = ⟨n3, R3, .nil⟩) (hs : s = ⟨s.heap, s.next, s.next, [], []⟩) (hpart3 : PartR prog (fixedEnv f c el ok3) af3.body af3.res ⟨n3, R3, .nil⟩ s v t) (hw : t.wr = [])
    {σ : Sig} {w : World} {cargs : Array Value} (hH : HRel C σ s.get w) (G : GOk C σ) (hv : VRels σ args cargs.toList) (hfresh : ∀ id, s.next ≤ id → σ id = none) (k : Nat) :
    CallsIn F k P f3 cargs w fun e w' => ∃ x σ', e = .returned x ∧ VRel σ' v x ∧ Grown w w' :=
  part_calls H hF hF0 hc3 hE3 (fixed_ct H hF hF0 hc hE hno hT0 hpart hint hg hpos ok3) hT3 hs hpart3 hw hH G hv hfresh k

/-- the same, by 'Calls': a law that is true -/
theorem whole_true {prog : Nat → Option AFun} {copy : Nat} {cop : AFun} (H : ProgIs C P prog copy cop)
    {f : Nat} {af : AFun} (hc : Compiled C P f af) {ok : Env} (hE : ∀ g af, ok.ok g → prog g = some af → Compiled C P g af) (hno : ∀ g args s v s', ¬ ok.ct g args s v s')
    {c : List AV} {el n next next1 : Nat} {R0 : RF} {L1 : List (Nat × AO)} (hT0 : startT [] 0 ⟨Nat.max af.ntmps 0, blank, .nil⟩ = ⟨n, R0, .nil⟩) (hpart : PartR prog ok af.body af.res ⟨n, R0, .nil⟩ (stL [(0, .cells c el false)] next next []) (.bool true) (stL L1 next1 next []))
    (hint : c.all isInt = true) (hg : ∀ g, C.glob g = true → g = 0) (hpos : 0 < next)
    {f3 : Nat} {af3 : AFun} (hc3 : Compiled C P f3 af3) {ok3 : Nat → Prop} (hE3 : ∀ g af, ok3 g → prog g = some af → Compiled C P g af)
    {args : List AV} {n3 next3 next4 : Nat} {R3 : RF} {L3 L4 : List (Nat × AO)} (hL3 : L3 = [(0, .cells c el false)]) (h1 : 1 < next3) (hT3 : startT args 0 ⟨Nat.max af3.ntmps (llen args), blank, .nil⟩ = ⟨n3, R3, .nil⟩)
    (hpart3 : PartR prog (fixedEnv f c el ok3) af3.body af3.res ⟨n3, R3, .nil⟩ (stL L3 next3 next3 []) (.bool true) (stL L4 next4 next3 []))
    {w : World} {cc : Array Value} {cargs : Array Value} (h0 : w.heap[0]? = some (.cells cc el)) (hlen : c.length = cc.size) (hcc : ∀ σ, VRels σ c cc.toList) (blk : Nat)
    (hv : VRels (fun id => if id = 0 then some ⟨0, 0, c.length⟩ else if id = 1 then some ⟨blk, 0, 0⟩ else none) args cargs.toList) :
    Calls P f3 cargs w fun e w' => e = .returned (.bool true) ∧ Grown w w' := by
  subst hL3
  refine callsIn_wide.1 (?_ : CallsIn Fence.wide 0 P f3 cargs w _)
  have hF : FOk Fence.wide := ⟨fun _ => trivial, rfl⟩
  let σ : Sig := fun id => if id = 0 then some ⟨0, 0, c.length⟩ else if id = 1 then some ⟨blk, 0, 0⟩ else none
  have hget : ∀ id o, (stL [(0, AO.cells c el false)] next3 next3 []).get id = some o → id = 0 ∧ o = .cells c el false := by
    intro id o ho
    have : (heapOf [(0, AO.cells c el false)]).get id = some o := by
      unfold St.get at ho
      split at ho
      · split at ho
        · cases ho
        · exact ho
      · cases ho
    have := heapOf_get this
    simp at this
    exact this
  have hH : HRel C σ (stL [(0, AO.cells c el false)] next3 next3 []).get w := {
    obj := fun id o ho => by
      obtain ⟨rfl, rfl⟩ := hget id o ho
      refine ⟨⟨0, 0, c.length⟩, by show (if (0 : Nat) = 0 then _ else _) = _; rw [if_pos rfl], cc, (0, 0), h0, ?_, Nat.le_refl _, ?_, .inl rfl, ?_, ?_⟩
      · show 0 + c.length ≤ cc.size; omega
      · show VRels σ c ((cc.toList.drop 0).take c.length)
        rw [List.drop_zero, List.take_of_length_le (by rw [Array.length_toList]; omega)]
        exact hcc σ
      · intro _ i hi; have : i < 0 := hi.2; omega
      · intro n _; exact Nat.dvd_zero n
    apart := fun i j pi pj hi hj hne hpi hpj => by
      have key : ∀ i, (stL [(0, AO.cells c el false)] next3 next3 []).get i ≠ none → i = 0 := fun i hi => by
        cases hx : (stL [(0, AO.cells c el false)] next3 next3 []).get i with
        | none => exact absurd hx hi
        | some o => exact (hget i o hx).1
      exact absurd ((key i hi).trans (key j hj).symm) hne }
  have G : GOk C σ := fun g hgl => by
    have := hg g hgl; subst this
    exact ⟨c.length, by show (if (0 : Nat) = 0 then _ else _) = _; rw [if_pos rfl]⟩
  refine CallsIn.mono (whole_calls H hF rfl hc hE hno hT0 hpart hint hg hpos hc3 hE3 hT3 rfl hpart3 rfl hH G hv (fun id hid => ?_) 0) ?_
  · have hid : next3 ≤ id := hid
    show (if id = 0 then _ else if id = 1 then _ else none) = none
    rw [if_neg (by omega), if_neg (by omega)]
  · rintro e w' ⟨x, σ', rfl, hx, gr⟩
    cases hx
    exact ⟨rfl, gr⟩

end Go.Qa
end

/- The fixed play's contract. -/
section
namespace Go.Qa.Try
open Go.Proofs Go.Qa

noncomputable def pow10 : List AV := match b0.2 with
  | .cells c _ _ => c
  | _ => []
theorem b0_eq : b0 = (0, .cells pow10 585 false) := by kernel_rfl
theorem pow10_ints : pow10.all isInt = true := by kernel_rfl
theorem L0_eq : L0 = [(0, .cells pow10 585 false)] := by kernel_rfl
theorem some15 : (cFun C Tryz.f15).isSome = true := by kernel_rfl
theorem cfun15 : cFun C Tryz.f15 = some af15 := by
  have h := some15
  unfold af15
  cases hx : cFun C Tryz.f15 with
  | none => rw [hx] at h; cases h
  | some af => rfl
theorem compiled15 : Compiled C Tryz.prog 15 af15 := compiled_of Tryz.func15 cfun15
theorem compiled_ok {g : Nat} {af : AFun} (h22 : g ≠ 22) (hn : natKOf g = none) (hp : prog g = some af) : Compiled C Tryz.prog g af := by
  rcases prog_cases hp with ⟨e, _⟩ | ⟨k, hk, _⟩ | hc
  · exact absurd e h22
  · rw [hn] at hk; cases hk
  · exact hc
theorem okF_ok : ∀ g af, okF.ok g → prog g = some af → Compiled C Tryz.prog g af := by
  intro g af h hp
  have h : g = 8 ∨ g = 9 ∨ g = 16 ∨ g = 17 := h
  rcases h with rfl | rfl | rfl | rfl
  all_goals
    have h := @compiled_ok _ af (by decide) (by kernel_rfl) hp
    assumption
theorem glob_ok : ∀ g, C.glob g = true → g = 0 := by
  intro g h
  have e : C.glob = fun g => Nat.beq g 0 := by kernel_rfl
  rw [e] at h
  exact beqF h
theorem start15 : startT [] 0 ⟨Nat.max af15.ntmps 0, blank, .nil⟩ = ⟨161, R0, .nil⟩ := by kernel_rfl
theorem known_part : PartR prog okF af15.body af15.res ⟨161, R0, .nil⟩ (stL [(0, .cells pow10 585 false)] 10 10 []) (.bool true) (stL L43 22203 10 []) := by
  rw [← L0_eq]
  have h := known_parts
  assumption
theorem okF_no : ∀ g args s v s', ¬ okF.ct g args s v s' := fun _ _ _ _ _ h => h
theorem known_whole {F : Fence} (hF : FOk F) (hF0 : F.round = none) {f3 : Nat} {af3 : AFun} (hc3 : Compiled C Tryz.prog f3 af3) {ok3 : Nat → Prop} (hE3 : ∀ g af, ok3 g → prog g = some af → Compiled C Tryz.prog g af)
    {args : List AV} {n3 : Nat} {R3 : RF} {s t : St} {v : AV} (hT3 : startT args 0 ⟨Nat.max af3.ntmps (llen args), blank, .nil⟩ = ⟨n3, R3, .nil⟩) (hs : s = ⟨s.heap, s.next, s.next, [], []⟩) (hpart3 : PartR prog (fixedEnv 15 pow10 585 ok3) af3.body af3.res ⟨n3, R3, .nil⟩ s v t) (hw : t.wr = [])
    {σ : Sig} {w : World} {cargs : Array Value} (hH : HRel C σ s.get w) (G : GOk C σ) (hv : VRels σ args cargs.toList) (hfresh : ∀ id, s.next ≤ id → σ id = none) (k : Nat) :
    CallsIn F k Tryz.prog f3 cargs w fun e w' => ∃ x σ', e = .returned x ∧ VRel σ' v x ∧ Grown w w' := by
  have h := @whole_calls Tryz.prog C F prog 22 copyF prog_is hF hF0 15 af15 compiled15 okF okF_ok okF_no pow10 585 161 10 22203 R0 L43 start15 known_part pow10_ints glob_ok (by decide) f3 af3 hc3 ok3 hE3 args n3 R3 s t v hT3 hs hpart3 hw σ w cargs hH G hv hfresh k
  assumption
end Go.Qa.Try
end
