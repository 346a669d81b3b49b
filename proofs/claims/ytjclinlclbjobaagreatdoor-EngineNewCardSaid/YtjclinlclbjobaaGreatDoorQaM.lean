/- Steps on the way to the card of EngineNew: parts of a run whose values are not all known. -/
import Derived.Test.YtjclinlclbjobaaGreatDoorQaE
import Derived.Test.YtjclinlclbjobaaGreatDoorQaL
set_option linter.all false
set_option linter.unusedVariables false
set_option linter.unusedSimpArgs false
set_option linter.unnecessarySimpa false

/- Parts of a run whose values are not all known: the fast machine's end is told by an equation. -/
section
namespace Go.Qa
variable {prog : Nat → Option AFun} {ok : Env}

def extL (s : St) : List Nat → Option (List (Nat × AO))
  | [] => some []
  | id :: r => (match s.get id with
    | some o => (match extL s r with
      | some l => some ((id, o) :: l)
      | none => none)
    | none => none)
abbrev KL := List (Nat × AO) → Nat → Nat → List Nat → Bool
def thenL (ids : List Nat) (s : St) (k : KL) : Bool :=
  match s.hid, extL s ids with
  | [], some l => k l s.next s.base s.wr
  | _, _ => false
theorem extL_ok {s : St} : ∀ {ids : List Nat} {l : List (Nat × AO)}, extL s ids = some l → ∀ id o, (id, o) ∈ l → s.get id = some o
  | [], l, h, id, o, hm => by simp [extL] at h; subst h; cases hm
  | i :: r, l, h, id, o, hm => by
    simp only [extL] at h
    split at h <;> first | (cases h; done) | skip
    rename_i x hx
    split at h <;> first | (cases h; done) | skip
    rename_i l' hl
    injection h with h; subst h
    rcases List.mem_cons.1 hm with e | e
    · injection e with e1 e2; subst e1; subst e2; exact hx
    · exact extL_ok hl id o e
theorem thenL_ok {ids : List Nat} {s : St} {l : List (Nat × AO)} {next base : Nat} {wr : List Nat} {k : KL} (hk : ∀ l' n b w, k l' n b w = true → l' = l ∧ n = next ∧ b = base ∧ w = wr) (h : thenL ids s k = true) : Less (stL l next base wr) s := by
  unfold thenL at h
  split at h
  · rename_i hh hl
    obtain ⟨rfl, e1, e2, e3⟩ := hk _ _ _ _ h
    refine ⟨e1.symm, e2.symm, hh.symm, e3.symm, fun id o hg => ?_⟩
    refine extL_ok hl id o (heapOf_get ?_)
    unfold St.get stL at hg
    simp only at hg
    split at hg
    · split at hg
      · cases hg
      · exact hg
    · cases hg
  · cases h

open Classical in
noncomputable def isR (R1 : RF) (l : List (Nat × AO)) (next base : Nat) (wr : List Nat) (R : RF) : KL := fun l' n b w => decide (R = R1 ∧ l' = l ∧ n = next ∧ b = base ∧ w = wr)
open Classical in
theorem isR_self (R1 : RF) (l : List (Nat × AO)) (next base : Nat) (wr : List Nat) : isR R1 l next base wr R1 l next base wr = true := by
  unfold isR; exact decide_eq_true ⟨rfl, rfl, rfl, rfl, rfl⟩
open Classical in
theorem isR_inv {R1 R : RF} {l l' : List (Nat × AO)} {next base n b : Nat} {wr w : List Nat} (h : isR R1 l next base wr R l' n b w = true) : R = R1 ∧ l' = l ∧ n = next ∧ b = base ∧ w = wr := by
  unfold isR at h; exact of_decide_eq_true h
theorem thenR_ok {ids : List Nat} {s : St} {R R1 : RF} {l : List (Nat × AO)} {next base : Nat} {wr : List Nat} (h : thenL ids s (isR R1 l next base wr R) = true) : R = R1 ∧ Less (stL l next base wr) s := by
  have h2 := thenL_ok (l := l) (next := next) (base := base) (wr := wr) (fun l' n b w hk => (isR_inv hk).2) h
  refine ⟨?_, h2⟩
  unfold thenL at h
  split at h
  · exact (isR_inv h).1
  · cases h

/-- what a part comes to: registers and listed blocks, whoever asks -/
def OpsE (prog : Nat → Option AFun) (d n : Nat) (ids : List Nat) (ops : List AOper) (R : RF) (s : St) (R1 : RF) (l : List (Nat × AO)) (next base : Nat) (wr : List Nat) : Prop :=
  ∀ K : RF → KL, (opsC n ops).run (mach prog noOver d).call (mach prog noOver d).round R s (fun R' s' => thenL ids s' (K R')) = K R1 l next base wr
def SeqE (prog : Nat → Option AFun) (d n : Nat) (ids : List Nat) (c : ACode) (R : RF) (s : St) (R1 : RF) (l : List (Nat × AO)) (next base : Nat) (wr : List Nat) : Prop :=
  ∀ K : RF → KL, (den prog n c).run (mach prog noOver d).call (mach prog noOver d).round R s (fun R' s' => thenL ids s' (K R')) (fun _ _ _ => false) (fun _ _ => false) = K R1 l next base wr
def EndE (prog : Nat → Option AFun) (d n : Nat) (ids : List Nat) (c : ACode) (res : List ARes) (R : RF) (s : St) (v : AV) (l : List (Nat × AO)) (next base : Nat) (wr : List Nat) : Prop :=
  ∀ K : AV → KL, (den prog n c).run (mach prog noOver d).call (mach prog noOver d).round R s (fun _ _ => false) (fun _ _ _ => false) (fun R' s' => (resV res).run R' s' fun v' => thenL ids s' (K v')) = K v l next base wr

theorem opsE_part {d n next base : Nat} {wr ids : List Nat} {ops : List AOper} {R R1 : RF} {s : St} {l : List (Nat × AO)} (h : OpsE prog d n ids ops R s R1 l next base wr) : PartO prog ok ops ⟨n, R, .nil⟩ s ⟨n, R1, .nil⟩ (stL l next base wr) := by
  obtain ⟨h1, h2⟩ := mach_ok (prog := prog) noOver_ok d
  have h := h (isR R1 l next base wr)
  rw [isR_self] at h
  obtain ⟨R', s', ⟨k, hk⟩, hx⟩ := opsC_t (n := n) h1 h2 h
  obtain ⟨e, hl⟩ := thenR_ok hx
  rw [e] at hk
  exact ⟨s', .opsRun k ops _ _ s s' hk, hl⟩
theorem seqE_norm {d n next base : Nat} {wr ids : List Nat} {c : ACode} {R R1 : RF} {s : St} {l : List (Nat × AO)} (h : SeqE prog d n ids c R s R1 l next base wr) : PartN prog ok c ⟨n, R, .nil⟩ s ⟨n, R1, .nil⟩ (stL l next base wr) := by
  obtain ⟨h1, h2⟩ := mach_ok (prog := prog) noOver_ok d
  have h := h (isR R1 l next base wr)
  rw [isR_self] at h
  obtain ⟨e, R', s', ⟨k, hk⟩, hx⟩ := den_ok prog n c _ _ h1 h2 R s _ _ _ h
  cases e with
  | normal =>
    obtain ⟨e, hl⟩ := thenR_ok hx
    rw [e] at hk
    exact ⟨s', .run k c .normal _ _ s s' hk, hl⟩
  | exit i => cases hx
  | ret => cases hx
theorem seqE_part {m d n next base : Nat} {wr ids : List Nat} {c c1 : ACode} {R R1 : RF} {s : St} {l : List (Nat × AO)} {res : List ARes} {v : AV} {t : St} (e : c1 = restR c m) (h : SeqE prog d n ids (cutR c m) R s R1 l next base wr)
    (hr : PartR prog ok c1 res ⟨n, R1, .nil⟩ (stL l next base wr) v t) : PartR prog ok c res ⟨n, R, .nil⟩ s v t := by
  subst e
  obtain ⟨h1, h2⟩ := mach_ok (prog := prog) noOver_ok d
  have h := h (isR R1 l next base wr)
  rw [isR_self] at h
  obtain ⟨e, R', s', ⟨k, hk⟩, hx⟩ := den_ok prog n (cutR c m) _ _ h1 h2 R s _ _ _ h
  obtain ⟨T2, s2, g1, g2, g3⟩ := hr
  cases e with
  | normal =>
    obtain ⟨e, hl⟩ := thenR_ok hx
    rw [e] at hk
    exact ⟨T2, s2, pieceG hk hl g1, g2, g3⟩
  | exit i => cases hx
  | ret => cases hx
open Classical in
theorem endE_part {d n next base : Nat} {wr ids : List Nat} {c : ACode} {R : RF} {s : St} {l : List (Nat × AO)} {res : List ARes} {v : AV} (h : EndE prog d n ids c res R s v l next base wr) : PartR prog ok c res ⟨n, R, .nil⟩ s v (stL l next base wr) := by
  obtain ⟨h1, h2⟩ := mach_ok (prog := prog) noOver_ok d
  have h := h (fun v' l' n b w => decide (v' = v ∧ l' = l ∧ n = next ∧ b = base ∧ w = wr))
  rw [decide_eq_true (⟨rfl, rfl, rfl, rfl, rfl⟩ : v = v ∧ l = l ∧ next = next ∧ base = base ∧ wr = wr)] at h
  obtain ⟨e, R', s', ⟨k, hk⟩, hx⟩ := den_ok prog n c _ _ h1 h2 R s _ _ _ h
  cases e with
  | normal => cases hx
  | exit i => cases hx
  | ret =>
    obtain ⟨v', hv, he⟩ := resV_t (n := n) hx
    have hl := thenL_ok (l := l) (next := next) (base := base) (wr := wr) (fun l' n b w hk => (of_decide_eq_true hk).2) he
    have hv' : v' = v := by
      unfold thenL at he
      split at he
      · exact (of_decide_eq_true he).1
      · cases he
    subst hv'
    exact ⟨_, s', .run k c .ret _ _ s s' hk, hv, hl⟩

/-- is the first of some operations a call of a function, whose value goes there? -/
def isCallF (l : List AOper) (T : Tmps) (g : Nat) (dst : Option Nat) : Bool :=
  match l with
  | o :: _ => guardOk o.guard T && (dstEq o.dst dst && (match o.op with
    | .call f _ => (match ev T f with
      | .func (.func g') [] [] => Nat.beq g' g
      | _ => false)
    | _ => false))
  | [] => false
def argsOf (l : List AOper) (T : Tmps) : List AV :=
  match l with
  | o :: _ => (match o.op with
    | .call _ xs => evs T xs
    | _ => [])
  | [] => []
theorem isCallF_ok {l : List AOper} {T : Tmps} {g : Nat} {dst : Option Nat} (h : isCallF l T g dst = true) : ∃ o r f xs, l = o :: r ∧ o.op = .call f xs ∧ guardOk o.guard T = true ∧ ev T f = .func (.func g) [] [] ∧ evs T xs = argsOf l T ∧ o.dst = dst := by
  cases l with
  | nil => cases h
  | cons o r =>
    simp only [isCallF, Bool.and_eq_true] at h
    obtain ⟨h1, h2, h3⟩ := h
    split at h3 <;> first | (cases h3; done) | skip
    rename_i f xs ho
    split at h3 <;> first | (cases h3; done) | skip
    rename_i g' hf
    have e1 := Nat.eq_of_beq_eq_true h3
    subst e1
    refine ⟨o, r, f, xs, rfl, ho, h1, hf, by simp only [argsOf, ho], ?_⟩
    cases hd : o.dst <;> cases dst <;> rw [hd] at h2 <;> first | (cases h2; done) | rfl | (rw [Nat.eq_of_beq_eq_true h2])

/-- a region, and what stands beside it, that ends normally -/
theorem pairN {c c1 : ACode} {T T1 T2 : Tmps} {s t1 t2 : St} {res : List ARes} {v : AV} {t : St} (e : c1 = restR c 0) (hc : isSeqRegion2 c = true) (h1 : PartO prog ok (regOps2 c) T s T1 t1) (h3 : PartN prog ok (condOf c) T1 t1 T2 t2) (hr : PartR prog ok c1 res T2 t2 v t) : PartR prog ok c res T s v t := by
  subst e
  obtain ⟨s1, g1, l1⟩ := h1
  obtain ⟨s3, g3, l3⟩ := h3
  obtain ⟨T4, s4, g4, e4, l4⟩ := hr
  refine ⟨T4, s4, ?_, e4, l4⟩
  rw [seqRegion2 hc]
  exact .seq _ _ _ _ _ _ _ _ _ _ (.seq _ _ _ _ _ _ _ _ _ _ (.region _ _ _ _ _ g1) l1 g3) l3 g4
/-- a region, and what stands beside it, that returns -/
theorem pairX {c : ACode} {T T1 : Tmps} {s t1 : St} {res : List ARes} {v : AV} {t : St} (hc : isSeqRegion2 c = true) (h1 : PartO prog ok (regOps2 c) T s T1 t1) (h3 : PartR prog ok (condOf c) res T1 t1 v t) : PartR prog ok c res T s v t := by
  obtain ⟨s1, g1, l1⟩ := h1
  obtain ⟨T4, s4, g4, e4, l4⟩ := h3
  refine ⟨T4, s4, ?_, e4, l4⟩
  rw [seqRegion2 hc]
  exact .seqX _ _ _ _ _ _ _ (by simp) (.seq _ _ _ _ _ _ _ _ _ _ (.region _ _ _ _ _ g1) l1 g4)
/-- a region that begins with the fixed call -/
theorem fixPart {c c1 : ACode} {g dst el n : Nat} {cells : List AV} {ok' : Nat → Prop} {R R1 : RF} {T4 : Tmps} {s t4 : St} {v : AV} {res : List ARes} {t : St} (e : c1 = restR c 0) (hc : isSeqRegion c = true) (hcall : isCall (regOps c) ⟨n, R, .nil⟩ g [] (some dst) = true) (hget : s.get 0 = some (.cells cells el false))
    (hT : (⟨n, R, .nil⟩ : Tmps).putO (some dst) (.bool true) = ⟨n, R1, .nil⟩) (h3 : PartO prog (fixedEnv g cells el ok') (dropO 1 (regOps c)) ⟨n, R1, .nil⟩ s T4 t4) (hr : PartR prog (fixedEnv g cells el ok') c1 res T4 t4 v t) : PartR prog (fixedEnv g cells el ok') c res ⟨n, R, .nil⟩ s v t := by
  subst e
  obtain ⟨o, r, f, xs, e1, e2, e3, e4, e5, e6⟩ := isCall_ok hcall
  obtain ⟨s4, g4, l4⟩ := h3
  obtain ⟨T5, s5, g5, e7, l5⟩ := hr
  refine ⟨T5, s5, ?_, e7, l5⟩
  rw [seqRegion hc]
  have call : RunsG prog (fixedEnv g cells el ok') (.ops [o]) ⟨n, R, .nil⟩ s ((⟨n, R, .nil⟩ : Tmps).putO o.dst (.bool true)) s :=
    .opsCt o f xs g [] [] (.bool true) _ s s e2 e3 e4 ⟨rfl, by rw [e5]; rfl, rfl, rfl, hget⟩ (Nat.le_refl _) rfl
  rw [e6, hT] at call
  have hd : dropO 1 (regOps c) = r := by rw [e1]; rfl
  rw [hd] at g4
  have all := RunsG.opsApp _ _ _ _ _ _ _ _ _ call (.refl s) g4
  have hcat : [o] ++ r = regOps c := by rw [e1]; rfl
  rw [hcat] at all
  exact .seq _ _ _ _ _ _ _ _ _ _ (.region _ _ _ _ _ all) l4 g5
/-- two halves of a region -/
theorem splitE {c c1 : ACode} {i : Nat} {T T1 T2 : Tmps} {s t1 t2 : St} {res : List ARes} {v : AV} {t : St} (e : c1 = restR c 0) (hc : isSeqRegion c = true) (h1 : PartO prog ok (takeO i (regOps c)) T s T1 t1) (h2 : PartO prog ok (dropO i (regOps c)) T1 t1 T2 t2)
    (hr : PartR prog ok c1 res T2 t2 v t) : PartR prog ok c res T s v t := by
  subst e; exact splitPart hc h1 h2 hr
/-- a region with a call that is told in parts -/
theorem callE {n n1 i g dst next base next2 base2 : Nat} {wr wr2 wr3 : List Nat} {c c1 : ACode} {args : List AV} {R0 R1 R2 : RF} {T T4 : Tmps} {s t4 : St} {L L2 : List (Nat × AO)} {af : AFun} {res : List ARes} {v vv : AV} {t : St} (e : c1 = restR c 0) (hc : isSeqRegion c = true)
    (h1 : PartO prog ok (takeO i (regOps c)) T s ⟨n, R1, .nil⟩ (stL L next base wr)) (hcall : isCallF (dropO i (regOps c)) ⟨n, R1, .nil⟩ g (some dst) = true) (hargs : argsOf (dropO i (regOps c)) ⟨n, R1, .nil⟩ = args) (hp : prog g = some af) (hk : ok.ok g)
    (hT0 : startT args 0 ⟨Nat.max af.ntmps (llen args), blank, .nil⟩ = ⟨n1, R0, .nil⟩) (hbody : PartR prog ok af.body af.res ⟨n1, R0, .nil⟩ (stL L next next []) vv (stL L2 next2 base2 wr2))
    (hw : nsEq (noteAll (stL L next base wr) wr2) wr3 = true) (hT2 : (⟨n, R1, .nil⟩ : Tmps).putO (some dst) vv = ⟨n, R2, .nil⟩) (h3 : PartO prog ok (dropO (i + 1) (regOps c)) ⟨n, R2, .nil⟩ (stL L2 next2 base wr3) T4 t4)
    (hr : PartR prog ok c1 res T4 t4 v t) : PartR prog ok c res T s v t := by
  subst e
  obtain ⟨s1, g1, l1⟩ := h1
  obtain ⟨o, r, f, xs, e1, e2, e3, e4, e5, e6⟩ := isCallF_ok hcall
  rw [hargs] at e5
  obtain ⟨T2, s2, b1, b2, b3⟩ := hbody
  obtain ⟨s4, g4, l4⟩ := h3
  obtain ⟨T5, s5, g5, e7, l5⟩ := hr
  refine ⟨T5, s5, ?_, e7, l5⟩
  rw [seqRegion hc]
  refine .seq _ _ _ _ _ _ _ _ _ _ (.region _ _ _ _ _ ?_) l4 g5
  have call : RunsG prog ok (.ops [o]) ⟨n, R1, .nil⟩ (stL L next base wr) ((⟨n, R1, .nil⟩ : Tmps).putO o.dst vv) ⟨s2.heap, s2.next, (stL L next base wr).base, noteAll (stL L next base wr) s2.wr, (stL L next base wr).hid⟩ := by
    refine .opsCall o f xs g [] [] af vv .ret _ T2 _ s2 e2 e3 e4 hp hk ?_ (.inr rfl) b2
    rw [e5]
    simp only [List.nil_append, List.append_nil]
    rw [hT0]
    exact b1
  rw [e6, hT2] at call
  have two := RunsG.opsApp _ _ _ _ _ _ _ _ _ call (less_after rfl b3 hw) g4
  have hd : [o] ++ dropO (i + 1) (regOps c) = dropO i (regOps c) := by rw [dropO_succ e1, e1]; rfl
  rw [hd] at two
  have all := RunsG.opsApp _ _ _ _ _ _ _ _ _ g1 l1 two
  rw [take_drop] at all
  exact all

def headO : List AOper → AOper
  | o :: _ => o
  | [] => ⟨none, none, .bad, []⟩
def isCons : List AOper → Bool
  | _ :: _ => true
  | [] => false
/-- an operation whose value is told, ahead of others -/
theorem cmpPart {n : Nat} {D : List AOper} {R R1 : RF} {s : St} {v : AV} {T2 : Tmps} {t2 : St} (hc : isCons D = true) (hg : guardOk (headO D).guard ⟨n, R, .nil⟩ = true) (hop : opA (headO D).op ⟨n, R, .nil⟩ s = some (.val v, s)) (hT : (⟨n, R, .nil⟩ : Tmps).putO (headO D).dst v = ⟨n, R1, .nil⟩)
    (h : PartO prog ok (dropO 1 D) ⟨n, R1, .nil⟩ s T2 t2) : PartO prog ok D ⟨n, R, .nil⟩ s T2 t2 := by
  cases D with
  | nil => cases hc
  | cons o r =>
    obtain ⟨s2, g, l⟩ := h
    have one : RunsG prog ok (.ops [o]) ⟨n, R, .nil⟩ s ⟨n, R1, .nil⟩ s := by
      refine .opsRun 0 [o] _ _ s s ?_
      have hg : guardOk o.guard ⟨n, R, .nil⟩ = true := hg
      have hop : opA o.op ⟨n, R, .nil⟩ s = some (.val v, s) := hop
      have hT : (⟨n, R, .nil⟩ : Tmps).putO o.dst v = ⟨n, R1, .nil⟩ := hT
      simp only [runOps, hg, doOp, hop, hT]
    exact ⟨s2, RunsG.opsApp [o] r _ _ _ _ _ _ _ one (.refl s) g, l⟩
theorem appPart {i : Nat} {X : List AOper} {T T1 T2 : Tmps} {s t1 t2 : St} (h1 : PartO prog ok (takeO i X) T s T1 t1) (h2 : PartO prog ok (dropO i X) T1 t1 T2 t2) : PartO prog ok X T s T2 t2 := by
  obtain ⟨s1, g1, l1⟩ := h1
  obtain ⟨s2, g2, l2⟩ := h2
  have := RunsG.opsApp _ _ _ _ _ _ _ _ _ g1 l1 g2
  rw [take_drop] at this
  exact ⟨s2, this, l2⟩
theorem regPart {c c1 : ACode} {T T1 : Tmps} {s t1 : St} {res : List ARes} {v : AV} {t : St} (e : c1 = restR c 0) (hc : isSeqRegion c = true) (h : PartO prog ok (regOps c) T s T1 t1) (hr : PartR prog ok c1 res T1 t1 v t) : PartR prog ok c res T s v t := by
  subst e
  obtain ⟨s1, g1, l1⟩ := h
  obtain ⟨T5, s5, g5, e7, l5⟩ := hr
  refine ⟨T5, s5, ?_, e7, l5⟩
  rw [seqRegion hc]
  exact .seq _ _ _ _ _ _ _ _ _ _ (.region _ _ _ _ _ g1) l1 g5

end Go.Qa
end

/- The law's codes. -/
section
namespace Go.Qa.Try
open Go.Proofs
theorem restR_add : ∀ (c : ACode) (a b : Nat), restR (restR c a) b = restR c (a + b + 1)
  | .seq x y, 0, b => by rw [show 0 + b + 1 = b + 1 by omega]; rfl
  | .seq x y, a + 1, b => by rw [show a + 1 + b + 1 = (a + b + 1) + 1 by omega]; exact restR_add y a b
  | .skip, a, b => by cases b <;> rfl
  | .region _ _, a, b => by cases b <;> rfl
  | .cond _ _ _, a, b => by cases b <;> rfl
  | .block _ _, a, b => by cases b <;> rfl
  | .loop _, a, b => by cases b <;> rfl
  | .scope _, a, b => by cases b <;> rfl
  | .exit _, a, b => by cases b <;> rfl
  | .ret, a, b => by cases b <;> rfl
  | .rangeF _ _ _ _, a, b => by cases b <;> rfl
  | .mapIt _, a, b => by cases b <;> rfl
  | .native _, a, b => by cases b <;> rfl
  | .bad, a, b => by cases b <;> rfl
noncomputable def env3 : Env := fixedEnv 15 pow10 585 fun g => g = 4 ∨ g = 21
noncomputable def c3_0 : ACode := (afOf 3).body
noncomputable def c3_1 : ACode := restR c3_0 0
noncomputable def c3_2 : ACode := restR c3_0 1
noncomputable def c3_3 : ACode := restR c3_0 2
noncomputable def c3_9 : ACode := restR c3_0 8
noncomputable def c3_10 : ACode := restR c3_0 9
noncomputable def c4_0 : ACode := (afOf 4).body
noncomputable def c4_1 : ACode := restR c4_0 0
noncomputable def c4_2 : ACode := restR c4_0 1
noncomputable def c4_3 : ACode := restR c4_0 2
noncomputable def c21_0 : ACode := (afOf 21).body
noncomputable def c21_1 : ACode := restR c21_0 0
noncomputable def c21_2 : ACode := restR c21_0 1
theorem x3_0_1 : c3_1 = restR c3_0 0 := by unfold c3_1; rfl
theorem x3_0_9 : c3_9 = restR c3_0 8 := by unfold c3_9; rfl
theorem x3_1_2 : c3_2 = restR c3_1 0 := by unfold c3_2 c3_1; exact (restR_add c3_0 0 0).symm
theorem x3_2_3 : c3_3 = restR c3_2 0 := by unfold c3_3 c3_2; exact (restR_add c3_0 1 0).symm
theorem x3_3_9 : c3_9 = restR c3_3 5 := by unfold c3_9 c3_3; exact (restR_add c3_0 2 5).symm
theorem x3_9_10 : c3_10 = restR c3_9 0 := by unfold c3_10 c3_9; exact (restR_add c3_0 8 0).symm
theorem x4_0_1 : c4_1 = restR c4_0 0 := by unfold c4_1; rfl
theorem x4_1_2 : c4_2 = restR c4_1 0 := by unfold c4_2 c4_1; exact (restR_add c4_0 0 0).symm
theorem x4_2_3 : c4_3 = restR c4_2 0 := by unfold c4_3 c4_2; exact (restR_add c4_0 1 0).symm
theorem x21_0_1 : c21_1 = restR c21_0 0 := by unfold c21_1; rfl
theorem x21_1_2 : c21_2 = restR c21_1 0 := by unfold c21_2 c21_1; exact (restR_add c21_0 0 0).symm
end Go.Qa.Try
end
