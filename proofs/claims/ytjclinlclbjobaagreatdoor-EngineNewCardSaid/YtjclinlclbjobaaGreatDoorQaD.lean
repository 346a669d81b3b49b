/- Steps on the way to the card of EngineNew: code, calls, chains of runs. -/
import Derived.Test.YtjclinlclbjobaaGreatDoorQaC
import Derived.RangeFuncRecord
import Derived.Scope
import Derived.LoopNIn
import Derived.Lib.Bytealg
import Derived.Lib.MakeNoZero
import Derived.Maps.RangeRun
set_option linter.all false
set_option linter.unusedVariables false
set_option linter.unusedSimpArgs false
set_option linter.unnecessarySimpa false

/- Whole codes: what the abstract run tells of a code, the model does. The marks of ranges over functions. -/
section
namespace Go.Qa
variable {P : Program} {C : Ctx} {F : Fence}

theorem heap_keep (w : World) (o : Obj) (i : Nat) (h : i < w.heap.size) : (w.alloc o).heap[i]? = w.heap[i]? := by
  show (w.heap.push o)[i]? = w.heap[i]?
  rw [Array.getElem?_push, if_neg (Nat.ne_of_lt h)]
/-! ### The marks of ranges over functions -/
def markOf (r : Nat) : Deferred := { target := .collected r, args := #[] }
/-- an activation's marks: blocks of their own, that nothing living names -/
structure Marks (σ : Sig) (H : Nat → Option AO) (w : World) (B : Nat) (ds : List Deferred) : Prop where
  ex : ∃ rs : List Nat, ds = rs.map markOf ∧ rs.Nodup ∧ ∀ r ∈ rs, B ≤ r ∧ w.heap[r]? = some (.deferred (some [])) ∧ ∀ id p, H id ≠ none → σ id = some p → p.block ≠ r
theorem Marks.nil (σ : Sig) (H : Nat → Option AO) (w : World) (B : Nat) : Marks σ H w B [] := ⟨[], rfl, List.nodup_nil, fun r hr => by cases hr⟩

theorem block_ne {σ σ' : Sig} {s s' : St} {w w' : World} (hP : Post C σ s w σ' s' w') (h : HRel C σ s.get w) (hn : ∀ id, s.next ≤ id → id < s'.next → σ id = none) {r : Nat} (hr : r < w.heap.size)
    (H : ∀ id p, s.get id ≠ none → σ id = some p → p.block ≠ r) (id : Nat) (p : Place) (hg : s'.get id ≠ none) (hp : σ' id = some p) : p.block ≠ r := by
  intro e
  have old : ∀ q, σ id = some q → p = q := fun q hq => by
    have := hP.ext.sub _ _ hq; rw [hp] at this; injection this
  cases h0 : σ id with
  | some q =>
    have := old q h0; subst this
    rcases hP.kept id hg with h1 | ⟨h1, h2⟩
    · exact H id p h1 h0 e
    · rw [hn id h1 h2] at h0; cases h0
  | none =>
    obtain ⟨_, h1 | ⟨id0, p0, e0, e1, e2, _⟩⟩ := hP.fresh id p hp h0
    · omega
    · exact H id0 p0 e2 e0 (e1.trans e)
theorem Marks.post {σ σ' : Sig} {s s' : St} {w w' : World} {B : Nat} {ds : List Deferred} (m : Marks σ s.get w B ds) (hP : Post C σ s w σ' s' w') (h : HRel C σ s.get w) (hn : ∀ id, s.next ≤ id → id < s'.next → σ id = none) : Marks σ' s'.get w' B ds := by
  obtain ⟨rs, e, nd, hh⟩ := m.ex
  refine ⟨rs, e, nd, fun r hr => ?_⟩
  obtain ⟨h1, h2, h3⟩ := hh r hr
  have hlt : r < w.heap.size := (Array.getElem?_eq_some_iff.1 h2).1
  refine ⟨h1, ?_, block_ne hP h hn hlt h3⟩
  rw [hP.frame r hlt fun id p a b c => absurd b (h3 id p c a)]
  exact h2

/-- a block that nothing living names is turned -/
theorem Post.aside {σ σ' : Sig} {s s' : St} {w w' : World} (hP : Post C σ s w σ' s' w') {r : Nat} {o : Obj} (h1 : w.heap.size ≤ r) (h2 : ∀ id p, s'.get id ≠ none → σ' id = some p → p.block ≠ r) : Post C σ s w σ' s' (w'.putObj r o) where
  ext := hP.ext
  rel := hP.rel.less (fun _ _ h => h) (fun _ _ h => h) (fun id p hg hp => World.putObj_heap_other (h2 id p hg hp))
  size := by rw [World.putObj_size]; exact hP.size
  frame := fun b hb H => by rw [World.putObj_heap_other (by omega)]; exact hP.frame b hb H
  fresh := fun id p h h' => by rw [World.putObj_size]; exact hP.fresh id p h h'
  next := hP.next
  base := hP.base
  hid := hP.hid
  wr := hP.wr
  os := hP.os
  tape := hP.tape
  output := hP.output
  kept := hP.kept
/-- a block more, of which nothing is told -/
theorem post_junk {σ : Sig} {s : St} {w : World} (h : HRel C σ s.get w) (o : Obj) : Post C σ s w σ s (w.alloc o) where
  ext := ⟨fun _ _ h => h, fun _ _ h h' => by rw [h] at h'; cases h'⟩
  rel := h.less (fun _ _ h => h) (fun _ _ h => h) (fun id p hg hp => by
    obtain ⟨q, hq, hlt⟩ := h.sig hg
    rw [hp] at hq; injection hq with hq; subst hq
    exact heap_keep w o _ hlt)
  size := by simp
  frame := fun b hb _ => heap_keep w o b hb
  fresh := fun _ _ h h' => by rw [h] at h'; cases h'
  next := Nat.le_refl _
  base := rfl
  hid := rfl
  wr := fun _ h => h
  os := rfl
  tape := rfl
  output := rfl
  kept := fun _ h => .inl h

/-- a run within, seen from without -/
theorem Post.sub {σ σ' : Sig} {s s' : St} {w w' : World} (hP : Post C σ ⟨s.heap, s.next, s.next, [], s.hid⟩ w σ' s' w') : Post C σ s w σ' ⟨s'.heap, s'.next, s.base, noteAll s s'.wr, s.hid⟩ w' := by
  have hh : s'.hid = s.hid := hP.hid
  have hg : (⟨s'.heap, s'.next, s.base, noteAll s s'.wr, s.hid⟩ : St).get = s'.get := by
    funext id; unfold St.get; rw [hh]
  have hg0 : (⟨s.heap, s.next, s.next, [], s.hid⟩ : St).get = s.get := rfl
  exact {
    ext := hP.ext
    rel := by rw [hg]; exact hP.rel
    size := hP.size
    frame := fun b hb H => hP.frame b hb fun id p h1 h2 h3 => by
      obtain ⟨h4, h5⟩ := H id p h1 h2 (by rw [← hg0]; exact h3)
      exact ⟨(get_lt h3).1, fun hm => h5 ((mem_noteAll s id _).2 (.inr ⟨hm, h4⟩))⟩
    fresh := fun id p h h' => by
      obtain ⟨h1, h2⟩ := hP.fresh id p h h'
      refine ⟨h1, h2.imp (fun h => h) ?_⟩
      rintro ⟨id0, p0, e0, e1, e2, e3⟩
      exact ⟨id0, p0, e0, e1, by rw [← hg0]; exact e2, fun hlt => (mem_noteAll s id0 _).2 (.inr ⟨e3 (get_lt e2).1, hlt⟩)⟩
    next := hP.next
    base := rfl
    hid := rfl
    wr := fun x hx => (mem_noteAll s x _).2 (.inl hx)
    os := hP.os
    tape := hP.tape
    output := hP.output
    kept := fun id h => by rw [hg] at h; exact hP.kept id h }

/-! ### What a code comes to -/
def exitOf : AExit → Exit
  | .normal => .normal
  | .exit i => .exit i
  | .ret => .ret
def DoneC (C : Ctx) (B : Nat) (σ : Sig) (s : St) (w : World) (T' : Tmps) (s' : St) (a' : Act) (w' : World) : Prop := ∃ σ', Post C σ s w σ' s' w' ∧ TRel σ' T' a'.tmps ∧ Marks σ' s'.get w' B a'.defers

theorem DoneC.of_done {B : Nat} {σ : Sig} {s s' : St} {w w' : World} {a a' : Act} {T' : Tmps} (h : HRel C σ s.get w) (hn : ∀ id, s.next ≤ id → id < s'.next → σ id = none) (m : Marks σ s.get w B a.defers) (d : Done C σ s w a T' s' a' w') : DoneC C B σ s w T' s' a' w' := by
  obtain ⟨σ', p1, p2, p3⟩ := d
  exact ⟨σ', p1, p2, by rw [p3]; exact m.post p1 h hn⟩

/-- what is asked of a stretch of code that ends as told -/
def CodeAt (C : Ctx) (F : Fence) (rf : Bool) (T : Tmps) (s : St) (e : AExit) (T' : Tmps) (s' : St) (goal : Fence → Nat → (Exit → Act → World → Prop) → Act → World → Prop) : Prop :=
  ∀ (F' : Fence), (F' = F ∨ (∃ l, F' = F.inRound l) ∧ rf = true) → ∀ (n : Nat) (Q : Exit → Act → World → Prop) (B : Nat) (σ : Sig) (a : Act) (w : World), s.base ≤ s.next → HRel C σ s.get w → GOk C σ → TRel σ T a.tmps → Marks σ s.get w B a.defers → B ≤ w.heap.size →
    (∀ id, s.next ≤ id → id < s'.next → σ id = none) → (∀ a' w', DoneC C B σ s w T' s' a' w' → Q (exitOf e) a' w') → goal F' n Q a w
def CodeOk (C : Ctx) (P : Program) (F : Fence) (run : Run) : Prop := ∀ (code : Code) (T : Tmps) (s : St) (e : AExit) (T' : Tmps) (s' : St), run (cCode C code) T s = some (e, T', s') →
  CodeAt C F (noRF (cCode C code)) T s e T' s' fun F' n Q a w => code.wpIn F' n P Q a w
def LoopOk (C : Ctx) (P : Program) (F : Fence) (m : Nat) (run : Run) : Prop := ∀ (code : Code) (T : Tmps) (s : St) (e : AExit) (T' : Tmps) (s' : St), run (.loop (cCode C code)) T s = some (e, T', s') →
  CodeAt C F (noRF (cCode C code)) T s e T' s' fun F' n Q a w => Code.roundsIn F' n P code Q m a w

theorem FOk.inRound (h : FOk F) (l : Nat) : FOk (F.inRound l) := ⟨h.fn, h.depth⟩
theorem CallOk.inRound {call : Call} (h : CallOk C P F call) (l : Nat) : CallOk C P (F.inRound l) call := h
theorem RoundOk.inRound {round : Round} (h : RoundOk C P F round) (l : Nat) : RoundOk C P (F.inRound l) round := h

theorem grow_none {σ σ1 : Sig} {s s1 s2 : St} {w w1 : World} (hP : Post C σ s w σ1 s1 w1) (st : s1.next ≤ s2.next) (hn : ∀ id, s.next ≤ id → id < s2.next → σ id = none) : ∀ id, s1.next ≤ id → id < s2.next → σ1 id = none := by
  intro id h1 h2
  cases hh : σ1 id with
  | none => rfl
  | some p =>
    have h0 := hn id (Nat.le_trans hP.next h1) h2
    have := hP.ext.new id p hh h0
    omega
theorem hn_le {σ : Sig} {s s1 s2 : St} (st : s1.next ≤ s2.next) (hn : ∀ id, s.next ≤ id → id < s2.next → σ id = none) : ∀ id, s.next ≤ id → id < s1.next → σ id = none := fun id h1 h2 => hn id h1 (by omega)

theorem wpIn_scope {n : Nat} {a : Act} {w : World} {Q : Exit → Act → World → Prop} {c : Code} (h : c.wpIn F n P (Exit.noGoto Q) a w) : (Code.scope c).wpIn F n P Q a w := by
  intro b k cs hro hb hr
  have h0 : (lone (b.atR a (.code (.scope c) :: k)) cs w).fenced P F := fenced_calm hb hr rfl
  have s1 : Go.step P (lone (b.atR a (.code (.scope c) :: k)) cs w) = .next (lone (b.atR a (.code c :: .inScope c :: k)) cs w) := step_lone_go (by simp [stepG, stepG.exec, Frame.atR])
  have s2 : ∀ (a : Act) (w : World), Go.step P (lone (b.atR a (.inScope c :: k)) cs w) = .next (lone (b.atR a k) cs w) := fun a w => step_lone_go (by simp [stepG, stepG.exec, Frame.atR])
  obtain ⟨e, a₁, w₁, hq, harr⟩ := h b (.inScope c :: k) cs hro hb hr
  cases e with
  | normal => exact ⟨.normal, a₁, w₁, hq, .head h0 s1 (StepsIn.trans harr (.one (fenced_calm hb hr rfl) (s2 _ _)))⟩
  | exit id =>
    have hx : exitTo id (.inScope c :: k) = exitTo id k := by simp [exitTo]
    exact ⟨.exit id, a₁, w₁, hq, fun k' hk => .head h0 s1 (harr.1 k' (by rw [hx]; exact hk)),
      fun hr' hk => let ⟨k₁, h1, h2⟩ := harr.2 hr' (by rw [hx]; exact hk); ⟨k₁, h1, .head h0 s1 h2⟩⟩
  | goto l => exact hq.elim
  | ret => exact ⟨_, a₁, w₁, hq, .of_steps (.one h0 s1) harr⟩
  | panic ch => exact ⟨_, a₁, w₁, hq, .of_steps (.one h0 s1) harr⟩
  | outgrown => exact ⟨_, a₁, w₁, hq, .of_steps (.one h0 s1) harr⟩

end Go.Qa
end

/- Whole codes: the step of the induction. -/
section
namespace Go.Qa
variable {P : Program} {C : Ctx} {F : Fence}

/-- a function with a body is entered -/
def EnterOk (P : Program) (prog : Nat → Option AFun) : Prop := ∀ g, entersB prog g = true → prog g ≠ none → ∀ (args : Array Value) (w : World), (callFunc g args).run P w = .ok (.enter g args) w

theorem callF_prog {prog : Nat → Option AFun} {run : Run} {f : Nat} {args : List AV} {s : St} {x : AV × St} (h : callF prog run f args s = some x) : prog f ≠ none := by
  intro e
  unfold callF at h
  rw [e] at h
  cases h

theorem DoneC.trans {B : Nat} {σ σ1 : Sig} {s s1 s2 : St} {w w1 w2 : World} {T2 : Tmps} {a2 : Act} (hP : Post C σ s w σ1 s1 w1) (hn : ∀ id, s.next ≤ id → id < s2.next → σ id = none) (d : DoneC C B σ1 s1 w1 T2 s2 a2 w2) : DoneC C B σ s w T2 s2 a2 w2 := by
  obtain ⟨σ2, p1, p2, p3⟩ := d
  exact ⟨σ2, hP.trans p1 hn, p2, p3⟩

set_option maxHeartbeats 1600000 in
theorem code_step {prog : Nat → Option AFun} {run : Run} {m : Nat} (K : CtxOk C P) (hF : FOk F) (hF0 : F.round = none) (hm : P.follows .mixedOrders = true) (hE : EnterOk P prog) (hrs : RunStep run)
    (hcall : CallOk C P F (callF prog run)) (hround : RoundOk C P F (roundF run)) (hcode : CodeOk C P F run) (hloop : LoopOk C P F m run) : CodeOk C P F (step prog run) ∧ LoopOk C P F (m + 1) (step prog run) := by
  have hcs := callF_step (prog := prog) hrs
  have hros := roundF_step hrs
  have hL : LoopOk C P F (m + 1) (step prog run) := by
    intro code T s e T' s' hr F' hF' n Q B σ a w hb h G ht mk hB hn hQ
    simp only [step] at hr
    rw [roundsIn_succ]
    split at hr
    · rename_i T1 s1 h1
      have st1 := hrs _ _ _ _ _ _ hb h1
      have st2 := hrs _ _ _ _ _ _ (st1.le hb) hr
      refine hcode code _ _ _ _ _ h1 F' hF' n _ B σ a w hb h G ht mk hB (hn_le st2.next hn) ?_
      rintro a1 w1 ⟨σ1, p1, p2, p3⟩
      exact hloop code _ _ _ _ _ hr F' hF' n Q B σ1 a1 w1 (st1.le hb) p1.rel (G.mono p1.ext.sub) p2 p3 (Nat.le_trans hB p1.size) (grow_none p1 st2.next hn) fun a' w' d => hQ a' w' (d.trans p1 hn)
    · rename_i hne
      refine hcode code _ _ _ _ _ hr F' hF' n _ B σ a w hb h G ht mk hB hn ?_
      intro a' w' d
      have := hQ a' w' d
      cases e with
      | normal => exact absurd hr (by intro hh; exact hne _ _ hh)
      | exit i => exact this
      | ret => exact this
  refine ⟨?_, hL⟩
  intro code T s e T' s' hr F' hF' n Q B σ a w hb h G ht mk hB hn hQ
  have hF1 : FOk F' := by
    rcases hF' with rfl | ⟨⟨l, rfl⟩, _⟩
    · exact hF
    · exact hF.inRound l
  have hcall' : CallOk C P F' (callF prog run) := by
    rcases hF' with rfl | ⟨⟨l, rfl⟩, _⟩
    · exact hcall
    · exact hcall.inRound l
  have hround' : RoundOk C P F' (roundF run) := by
    rcases hF' with rfl | ⟨⟨l, rfl⟩, _⟩
    · exact hround
    · exact hround.inRound l
  cases code with
  | skip =>
    simp only [cCode, step] at hr
    obtain ⟨rfl, rfl, rfl⟩ := trip_inj hr
    exact wpIn_skip (hQ _ _ ⟨σ, .refl h, ht, mk⟩)
  | label l =>
    simp only [cCode, step] at hr
    obtain ⟨rfl, rfl, rfl⟩ := trip_inj hr
    exact wpIn_label (hQ _ _ ⟨σ, .refl h, ht, mk⟩)
  | region rid ops draw =>
    simp only [cCode] at hr
    split at hr
    · rename_i l hl
      simp only [step] at hr
      cases draw with
      | false =>
        simp only at hr
        split at hr <;> first | (cases hr; done) | skip
        rename_i T1 s1 h1
        obtain ⟨rfl, rfl, rfl⟩ := trip_inj hr
        refine wpIn_region ?_
        have := opsIn_ok (n := n) (Q := Q) (ops := ops) K hF1 hcall' hround' hcs hros ops.toList 0 l T a s w σ T1 s1 (by simp) hl h1 hb G ht h hn fun a' w' d => hQ a' w' (.of_done h hn mk d)
        rw [List.range_eq_range']
        simpa using this
      | true =>
        simp only at hr
        split at hr <;> first | (cases hr; done) | skip
        rename_i T1 s1 h1
        obtain ⟨rfl, rfl, rfl⟩ := trip_inj hr
        exact regionD_ok K hF1 hcall' hround' hcs hros hm hl h1 G ht h hn fun a' w' d => hQ a' w' (.of_done h hn mk d)
    · simp [step] at hr
  | seq x y =>
    simp only [cCode, step] at hr
    refine wpIn_seq ?_
    have hrf : ∀ z : Bool, (F' = F ∨ (∃ l, F' = F.inRound l) ∧ noRF (cCode C (.seq x y)) = true) → (noRF (cCode C (.seq x y)) = true → z = true) → (F' = F ∨ (∃ l, F' = F.inRound l) ∧ z = true) := fun z hh hz => hh.imp id fun ⟨a, b⟩ => ⟨a, hz b⟩
    have hx := hrf (noRF (cCode C x)) hF' (fun hh => by simp only [cCode, noRF, Bool.and_eq_true] at hh; exact hh.1)
    have hy := hrf (noRF (cCode C y)) hF' (fun hh => by simp only [cCode, noRF, Bool.and_eq_true] at hh; exact hh.2)
    split at hr <;> first | (cases hr; done) | skip
    · rename_i T1 s1 h1
      have st1 := hrs _ _ _ _ _ _ hb h1
      have st2 := hrs _ _ _ _ _ _ (st1.le hb) hr
      refine hcode x _ _ _ _ _ h1 F' hx n _ B σ a w hb h G ht mk hB (hn_le st2.next hn) ?_
      rintro a1 w1 ⟨σ1, p1, p2, p3⟩
      exact hcode y _ _ _ _ _ hr F' hy n Q B σ1 a1 w1 (st1.le hb) p1.rel (G.mono p1.ext.sub) p2 p3 (Nat.le_trans hB p1.size) (grow_none p1 st2.next hn) fun a' w' d => hQ a' w' (d.trans p1 hn)
    · rename_i e1 T1 s1 hne h1
      obtain ⟨rfl, rfl, rfl⟩ := trip_inj hr
      refine hcode x _ _ _ _ _ h1 F' hx n _ B σ a w hb h G ht mk hB hn ?_
      intro a' w' d
      have := hQ a' w' d
      cases e1 with
      | normal => exact (hne rfl).elim
      | exit i => exact this
      | ret => exact this
  | cond c x y =>
    simp only [cCode] at hr
    split at hr
    · rename_i c' hc
      have hcr := cX_rel (a := a) G ht hc
      simp only [step] at hr
      have hnr : noRF (cCode C (.cond c x y)) = (noRF (cCode C x) && noRF (cCode C y)) := by simp only [cCode, hc, noRF]
      have hx : (F' = F ∨ (∃ l, F' = F.inRound l) ∧ noRF (cCode C x) = true) := hF'.imp id fun ⟨a, b⟩ => ⟨a, by rw [hnr, Bool.and_eq_true] at b; exact b.1⟩
      have hy : (F' = F ∨ (∃ l, F' = F.inRound l) ∧ noRF (cCode C y) = true) := hF'.imp id fun ⟨a, b⟩ => ⟨a, by rw [hnr, Bool.and_eq_true] at b; exact b.2⟩
      split at hr <;> first | (cases hr; done) | skip
      · rename_i hv
        rw [hv] at hcr
        have : a.eval c = .bool true := by generalize a.eval c = z at hcr; cases hcr; rfl
        exact wpIn_cond_true this (hcode x _ _ _ _ _ hr F' hx n Q B σ a w hb h G ht mk hB hn hQ)
      · rename_i hv
        rw [hv] at hcr
        have : a.eval c = .bool false := by generalize a.eval c = z at hcr; cases hcr; rfl
        exact wpIn_cond_false this (hcode y _ _ _ _ _ hr F' hy n Q B σ a w hb h G ht mk hB hn hQ)
    · simp [step] at hr
  | block id c =>
    simp only [cCode, step] at hr
    refine wpIn_block ?_
    have hx : (F' = F ∨ (∃ l, F' = F.inRound l) ∧ noRF (cCode C c) = true) := hF'.imp (fun h => h) fun ⟨a, b⟩ => ⟨a, by simpa only [cCode, noRF] using b⟩
    split at hr
    · rename_i i T1 s1 h1
      split at hr
      · rename_i hi
        rw [beq_iff] at hi
        have hi := of_decide_eq_true hi
        subst hi
        obtain ⟨rfl, rfl, rfl⟩ := trip_inj hr
        refine hcode c _ _ _ _ _ h1 F' hx n _ B σ a w hb h G ht mk hB hn ?_
        intro a' w' d
        simp only [exitOf, Exit.inBlock, if_true]
        exact hQ a' w' d
      · rename_i hi
        rw [beq_iff] at hi
        have hi := of_decide_eq_false hi
        obtain ⟨rfl, rfl, rfl⟩ := trip_inj hr
        refine hcode c _ _ _ _ _ h1 F' hx n _ B σ a w hb h G ht mk hB hn ?_
        intro a' w' d
        simp only [exitOf, Exit.inBlock, if_neg hi]
        exact hQ a' w' d
    · rename_i hne
      refine hcode c _ _ _ _ _ hr F' hx n _ B σ a w hb h G ht mk hB hn ?_
      intro a' w' d
      have := hQ a' w' d
      cases e with
      | normal => exact this
      | exit i => exact absurd hr (hne _ _ _)
      | ret => exact this
  | loop c =>
    simp only [cCode] at hr
    exact wpIn_loop_rounds (m + 1) (hL c T s e T' s' hr F' (hF'.imp (fun h => h) fun ⟨a, b⟩ => ⟨a, by simpa only [cCode, noRF] using b⟩) n Q B σ a w hb h G ht mk hB hn hQ)
  | scope c =>
    simp only [cCode, step] at hr
    refine wpIn_scope ?_
    have hx : (F' = F ∨ (∃ l, F' = F.inRound l) ∧ noRF (cCode C c) = true) := hF'.imp (fun h => h) fun ⟨a, b⟩ => ⟨a, by simpa only [cCode, noRF] using b⟩
    refine hcode c _ _ _ _ _ hr F' hx n _ B σ a w hb h G ht mk hB hn ?_
    intro a' w' d
    have := hQ a' w' d
    cases e with
    | normal => exact this
    | exit i => exact this
    | ret => exact this
  | exit id =>
    simp only [cCode, step] at hr
    obtain ⟨rfl, rfl, rfl⟩ := trip_inj hr
    exact wpIn_exit (hQ _ _ ⟨σ, .refl h, ht, mk⟩)
  | ret =>
    simp only [cCode, step] at hr
    obtain ⟨rfl, rfl, rfl⟩ := trip_inj hr
    exact wpIn_ret (hQ _ _ ⟨σ, .refl h, ht, mk⟩)
  | rangeFunc g ps assign body =>
    simp only [cCode] at hr
    split at hr <;> first | (simp [step] at hr; done) | skip
    rename_i g' hg hno
    rw [Bool.and_eq_true] at hno
    have hFF : F' = F := by
      rcases hF' with h | ⟨_, h⟩
      · exact h
      · simp [cCode, hg, hno.1, hno.2, noRF] at h
    subst hFF
    simp only [step] at hr
    split at hr <;> first | (cases hr; done) | skip
    rename_i fg first captured hev hbig
    split at hr <;> first | (cases hr; done) | skip
    rename_i hent
    split at hr <;> first | (cases hr; done) | skip
    rename_i v s1 hc1
    split at hr <;> first | (cases hr; done) | skip
    rename_i r hg1
    split at hr <;> first | (cases hr; done) | skip
    rename_i hbusy
    obtain ⟨rfl, rfl, rfl⟩ := trip_inj hr
    have hcr := cX_rel (a := a) G ht hg
    rw [hev] at hcr
    have hst := hcs _ _ _ _ _ ((AStep.new s _).le hb) hc1
    have hlt : s.next < s1.next := Nat.lt_of_lt_of_le (Nat.lt_succ_self _) hst.next
    refine wpIn_rangeFunc fun fn hfn => ?_
    rw [hF0]
    generalize hv : a.eval g = cf at hcr
    cases hcr with
    | func _ _ _ c1 c2 r1 r2 =>
      -- the two new blocks
      have j1 := post_junk h (.deferred (some []))
      have hn0 : σ s.next = none := hn _ (Nat.le_refl _) hlt
      let L : Loop := { state := .ready, pending := none, fn := fn, tmps := a.tmps, params := ps, assign := assign, body := body, defers := w.heap.size }
      let p : Place := ⟨(w.alloc (.deferred (some []))).heap.size, 0, 0⟩
      have hLr : LRel C (σ.ins s.next p) ⟨false, false, .normal, T, ps.toList, cCode C assign, cCode C body⟩ L :=
        ⟨rfl, rfl, rfl, rfl, hno.1, hno.2, ht.mono (Sig.ins_sub p hn0), trivial⟩
      have j2 := post_new j1.rel hn0 (.loop ⟨false, false, .normal, T, ps.toList, cCode C assign, cCode C body⟩) (.loop L) 0 0 ⟨L, rfl, hLr⟩
      have j := j1.trans j2 fun id h1 h2 => hn id h1 (Nat.lt_of_lt_of_le h2 hst.next)
      have hpb : p.block = w.heap.size + 1 := World.size_alloc _ _
      refine ⟨w.heap.size + 1, [markOf w.heap.size], (w.alloc (.deferred (some []))).alloc (.loop L), ⟨.fn (.func fg) c2, c1 ++ #[.func (.yield (w.heap.size + 1)) #[] #[]]⟩, (w.alloc (.deferred (some []))).alloc (.loop L),
        fg, c1 ++ #[.func (.yield (w.heap.size + 1)) #[] #[]] ++ c2, (w.alloc (.deferred (some []))).alloc (.loop L), run_enterLoop_outer fn a.tmps ps assign body, ?_, fun _ _ => hF.fn _, ?_, fun hd => (by rw [hF.depth] at hd; cases hd), ?_⟩
      · have hk : a.eval (.const (.func (.yield (w.heap.size + 1)) #[] #[])) = .func (.yield (w.heap.size + 1)) #[] #[] := rfl
        simp [resolve, hv, Deferred.ofValue, rangeCall, hk]
      · simp only [invoke]
        exact hE fg hent (callF_prog hc1) _ _
      · have hcm := hcall _ _ _ _ _ hc1 (n - 1) _ _ (c1 ++ #[.func (.yield (w.heap.size + 1)) #[] #[]] ++ c2) ((AStep.new s _).le hb) j.rel (G.mono j.ext.sub) (by
          simp only [Array.toList_append]
          refine ((r1.mono j.ext.sub).append ?_).append (r2.mono j.ext.sub)
          refine .cons _ _ _ _ ?_ .nil
          rw [← hpb]
          exact .yield _ p (Sig.ins_self _ _ _)) (grow_none j hst.next hn)
        rw [hE fg hent (callF_prog hc1)] at hcm
        refine CallsIn.mono hcm ?_
        rintro e w2 ⟨c, rfl, σ2, q1, q2⟩
        have hj2 := j.trans q1 hn
        obtain ⟨p', hp', hob⟩ := q1.rel.obj _ _ hg1
        have := q1.ext.sub _ _ (Sig.ins_self σ s.next p)
        rw [hp'] at this; injection this with this; subst this
        obtain ⟨L', hL', hLR⟩ := hob
        rw [hpb] at hL'
        have hst' : L'.state ≠ .busy := by
          rw [hLR.state, hbusy]
          simp only [Bool.false_eq_true, if_false]
          split <;> simp
        have hk : Post C σ2 s1 w2 σ2 (s1.kill s.next) (w2.putObj (w.heap.size + 1) (.loop { L' with state := .exhausted })) := by
          refine post_mod q1.rel (id := s.next) (by rw [hg1]; simp) hp' rfl rfl rfl rfl (fun j hj => by rw [St.get_kill, if_neg hj]) (fun b hb' => ?_) World.putObj_size rfl rfl rfl ?_
          · rw [hpb] at hb'; exact World.putObj_heap_other hb'
          · intro o ho; rw [St.get_kill, if_pos rfl] at ho; cases ho
        have hall := hj2.trans hk hn
        have hmk : Marks σ2 (s1.kill s.next).get (w2.putObj (w.heap.size + 1) (.loop { L' with state := .exhausted })) B (markOf w.heap.size :: a.defers) := by
          have m1 := mk.post hall h hn
          obtain ⟨rs, e1, e2, e3⟩ := m1.ex
          obtain ⟨rs0, f1, f2, f3⟩ := mk.ex
          have hrs : rs0 = rs := by
            rw [f1] at e1
            have := List.map_inj_right (f := markOf) (l := rs0) (l' := rs) (fun x y hxy => by simpa [markOf] using hxy)
            exact this.1 e1
          subst hrs
          have hlt0 : ∀ x ∈ rs0, x < w.heap.size := fun x hx => (Array.getElem?_eq_some_iff.1 (f3 x hx).2.1).1
          refine ⟨w.heap.size :: rs0, by rw [List.map_cons, ← e1], List.nodup_cons.2 ⟨fun hx => absurd (hlt0 _ hx) (Nat.lt_irrefl _), e2⟩, fun x hx => ?_⟩
          rcases List.mem_cons.1 hx with rfl | hx
          · have hne : ∀ id p, (s.new (.loop ⟨false, false, .normal, T, ps.toList, cCode C assign, cCode C body⟩)).get id ≠ none → σ.ins s.next ⟨(w.alloc (.deferred (some []))).heap.size, 0, 0⟩ id = some p → p.block ≠ w.heap.size := by
              intro id q hg2 hq
              unfold Sig.ins at hq
              by_cases e : id = s.next
              · rw [if_pos e] at hq; injection hq with hq; subst hq
                show (w.alloc (.deferred (some []))).heap.size ≠ w.heap.size
                rw [World.size_alloc]; omega
              · rw [if_neg e] at hq
                have hg3 : s.get id ≠ none := by
                  cases hx : (s.new (.loop ⟨false, false, .normal, T, ps.toList, cCode C assign, cCode C body⟩)).get id with
                  | none => exact absurd hx hg2
                  | some o =>
                    rcases St.get_new s _ id o hx with ⟨e', _⟩ | ⟨_, e'⟩
                    · exact absurd e' e
                    · rw [e']; simp
                obtain ⟨q', hq', hlt'⟩ := h.sig hg3
                rw [hq] at hq'; injection hq' with hq'; subst hq'
                omega
            have hsz : w.heap.size < ((w.alloc (.deferred (some []))).alloc (.loop L)).heap.size := by rw [World.size_alloc, World.size_alloc]; omega
            have hat : ((w.alloc (.deferred (some []))).alloc (.loop L)).heap[w.heap.size]? = some (.deferred (some [])) := by
              rw [heap_keep _ _ _ (by rw [World.size_alloc]; omega)]
              exact World.alloc_heap_new w _
            have q3 := q1.trans hk (grow_none j hst.next hn)
            refine ⟨hB, ?_, block_ne q3 j.rel (grow_none j hst.next hn) hsz hne⟩
            rw [q3.frame _ hsz fun id p a b c => absurd b (hne id p c a)]
            exact hat
          · exact e3 x hx
        have hd : DoneC C B σ s w T (s1.kill s.next) { a with defers := [markOf w.heap.size] ++ a.defers } (w2.putObj (w.heap.size + 1) (.loop { L' with state := .exhausted })) :=
          ⟨σ2, hall, ht.mono hj2.ext.sub, hmk⟩
        refine ⟨L'.pending, _, run_endLoop hL' hst', ?_⟩
        have hpd := hLR.pend
        have hQ' := hQ _ _ hd
        cases hpe : r.pend with
        | normal =>
          rw [hpe] at hpd hQ'
          cases hpp : L'.pending with
          | none => rw [hpp] at hQ'; exact hQ'
          | some c => rw [hpp] at hpd; exact hpd.elim
        | exit i =>
          rw [hpe] at hpd hQ'
          cases hpp : L'.pending with
          | none => rw [hpp] at hpd; exact hpd.elim
          | some c =>
            rw [hpp] at hpd hQ'
            cases c <;> simp only [PendRel] at hpd
            subst hpd
            exact wpIn_exit hQ'
        | ret =>
          rw [hpe] at hpd hQ'
          cases hpp : L'.pending with
          | none => rw [hpp] at hpd; exact hpd.elim
          | some c =>
            rw [hpp] at hpd hQ'
            cases c <;> simp only [PendRel] at hpd
            exact wpIn_ret hQ'
  | goto l => simp [cCode, step] at hr
  | refuse wh => simp [cCode, step] at hr

end Go.Qa
end

/- Calls and rounds: a function's contract out of its body's run; the whole induction. -/
section
namespace Go.Qa
variable {P : Program} {C : Ctx} {F : Fence}

/-! ### Results -/
theorem mapRes_ok (K : CtxOk C P) {σ : Sig} {s : St} {w : World} (h : HRel C σ s.get w) {T : Tmps} {tmps : Array Value} (ht : TRel σ T tmps) {g : ResultVar → Sem Value} (g1 : ∀ t, g (.tmp t) = pure (tmps.getD t undef)) (g2 : ∀ a t, g (.cell a t) = do loadVar t (← asAddr (tmps.getD a undef))) :
    ∀ {l : List ResultVar} {r : List ARes} {vs : List AV}, cRes C l = some r → mapRes s T r = some vs → ∃ cs : List Value, (l.mapM g).run P w = .ok cs w ∧ VRels σ vs cs
  | [], r, vs, hc, hm => by
    simp [cRes] at hc; subst hc
    simp [mapRes] at hm; subst hm
    exact ⟨[], by simp, .nil⟩
  | .tmp t :: l, r, vs, hc, hm => by
    simp only [cRes] at hc
    split at hc <;> first | (cases hc; done) | skip
    rename_i r' hr'
    injection hc with hc; subst hc
    simp only [mapRes] at hm
    split at hm <;> first | (cases hm; done) | skip
    rename_i vs' hvs
    injection hm with hm; subst hm
    obtain ⟨cs, h1, h2⟩ := mapRes_ok K h ht g1 g2 hr' hvs
    refine ⟨tmps.getD t undef :: cs, ?_, .cons _ _ _ _ (ht.at_ t) h2⟩
    rw [List.mapM_cons]
    simp only [g1, Sem.run_bind, Sem.run_pure, Result.andThen, h1]
  | .cell a t :: l, r, vs, hc, hm => by
    simp only [cRes] at hc
    split at hc <;> first | (cases hc; done) | skip
    rename_i sz r' hsz hr'
    injection hc with hc; subst hc
    simp only [mapRes] at hm
    split at hm <;> first | (cases hm; done) | skip
    rename_i id off hid
    split at hm <;> first | (cases hm; done) | skip
    rename_i c el fz hcs
    split at hm <;> first | (cases hm; done) | skip
    rename_i v vs' hv hvs
    injection hm with hm; subst hm
    obtain ⟨cs, h1, h2⟩ := mapRes_ok K h ht g1 g2 hr' hvs
    obtain ⟨p, cc, fr, hp, L⟩ := h.live hcs
    obtain ⟨x, hx, hr⟩ := run_loadVar (P := P) K hsz L hv
    have hta := ht.at_ a
    rw [hid] at hta
    refine ⟨x :: cs, ?_, .cons _ _ _ _ hr h2⟩
    have hadr : (asAddr (tmps.getD a undef)).run P w = .ok ⟨p.block, p.base + off, none⟩ w := by
      generalize tmps.getD a undef = q at hta
      cases hta with
      | ptr _ _ p' hp' =>
        rw [hp] at hp'; injection hp' with hp'; subst hp'
        rfl
    rw [List.mapM_cons]
    simp only [g2, Sem.run_bind, Sem.run_pure, Result.andThen, hadr, hx, h1]

theorem results_ok (K : CtxOk C P) {σ : Sig} {s : St} {w : World} (h : HRel C σ s.get w) {T : Tmps} {tmps : Array Value} (ht : TRel σ T tmps) {fn : Func} {r : List ARes} {v : AV} (hc : cRes C fn.results.toList = some r) (hm : resA s T r = some v) :
    ∃ c, (results fn tmps).run P w = .ok c w ∧ VRel σ v c := by
  unfold resA at hm
  cases hvs : mapRes s T r with
  | none => rw [hvs] at hm; cases hm
  | some vs =>
    obtain ⟨cs, h1, h2⟩ := mapRes_ok (P := P) K h ht (g := fun | .tmp t => pure (tmps.getD t undef) | .cell a t => do loadVar t (← asAddr (tmps.getD a undef))) (fun _ => rfl) (fun _ _ => rfl) hc hvs
    have h3 : (results fn tmps).run P w = .ok (if h : cs.toArray.size = 1 then cs.toArray[0] else .tuple cs.toArray) w := by
      unfold results
      rw [Array.mapM_eq_mapM_toList]
      simp only [map_eq_pure_bind, Sem.run_bind, Sem.run_pure, Result.andThen, bind_assoc, pure_bind]
      have h1' := h1
      revert h1'
      generalize (List.mapM _ fn.results.toList : Sem (List Value)) = z
      exact fun h1' => by rw [h1']
    rw [h3]
    refine ⟨_, rfl, ?_⟩
    rw [hvs] at hm
    cases h2 with
    | nil =>
      simp only at hm
      injection hm with hm; subst hm
      exact .tup _ _ .nil
    | cons a c l cs x y =>
      cases y with
      | nil =>
        simp only at hm
        injection hm with hm; subst hm
        simpa using x
      | cons a' c' l' cs' x' y' =>
        simp only at hm
        injection hm with hm; subst hm
        have : ¬ (c :: c' :: cs').toArray.size = 1 := by simp
        rw [dif_neg this]
        exact .tup _ _ (.cons _ _ _ _ x (.cons _ _ _ _ x' y'))

/-! ### The temporaries at the start -/
theorem startT_get : ∀ (args : List AV) (i : Nat) (T : Tmps) (j : Nat), i + args.length ≤ T.n → (startT args i T).get j = if i ≤ j ∧ j < i + args.length then args.getD (j - i) .undef else T.get j
  | [], i, T, j, h => by simp [startT]; intro h1 h2; omega
  | v :: vs, i, T, j, h => by
    simp only [startT]
    rw [startT_get vs (Nat.succ i) (T.put i v) j (by rw [Tmps.n_put]; simp at h; omega), Tmps.get_put]
    simp only [List.length_cons] at h ⊢
    by_cases h1 : j = i
    · subst h1
      rw [if_neg (by omega), if_pos ⟨rfl, by omega⟩, if_pos (by omega)]
      simp
    · by_cases h2 : i ≤ j ∧ j < i + (vs.length + 1)
      · rw [if_pos (by omega), if_pos h2]
        have : j - i = (j - Nat.succ i) + 1 := by omega
        rw [this]; simp
      · rw [if_neg (by omega), if_neg h2, if_neg (by omega)]
theorem startT_n : ∀ (args : List AV) (i : Nat) (T : Tmps), (startT args i T).n = T.n
  | [], i, T => rfl
  | v :: vs, i, T => by simp only [startT]; rw [startT_n, Tmps.n_put]
theorem start_rel {σ : Sig} {args : List AV} {cargs : Array Value} (h : VRels σ args cargs.toList) (n : Nat) : TRel σ (startT args 0 ⟨Nat.max n (llen args), blank, .nil⟩) (cargs ++ Array.replicate (n - cargs.size) undef) := by
  have hl : args.length = cargs.size := by rw [h.length]; simp
  have e : llen args = args.length := llen_eq args
  refine ⟨?_, fun j => ?_⟩
  · rw [startT_n, e, hl]
    simp only [Array.size_append, Array.size_replicate]
    show max n cargs.size = _
    omega
  · rw [startT_get _ _ _ _ (by rw [e]; show 0 + args.length ≤ max n args.length; omega)]
    by_cases hj : j < args.length
    · rw [if_pos ⟨Nat.zero_le _, by omega⟩]
      have : args[j]? = some args[j] := by simp [hj]
      obtain ⟨c, hc, hr⟩ := h.get this
      have h1 : (cargs ++ Array.replicate (n - cargs.size) undef).getD j undef = c := by
        have : cargs[j]? = some c := by simpa using hc
        rw [Array.getD_eq_getD_getElem?, Array.getElem?_append_left (by omega), this]; rfl
      rw [h1]
      simp [hj]
      exact hr
    · rw [if_neg (by omega)]
      have h1 : (cargs ++ Array.replicate (n - cargs.size) undef).getD j undef = undef := by
        rw [Array.getD_eq_getD_getElem?, Array.getElem?_append_right (by omega)]
        by_cases h2 : j - cargs.size < n - cargs.size
        · simp [h2]
        · simp [h2]
      rw [h1, Tmps.get_blank]
      exact VRel.undef σ

theorem putAll_rel {σ : Sig} : ∀ {ps : List Nat} {args : List AV} {cs : List Value} {T : Tmps} {ts : Array Value}, VRels σ args cs → TRel σ T ts → TRel σ (putAll T ps args) ((ps.zip cs).foldl (fun ts x => ts.setIfInBounds x.1 x.2) ts)
  | [], _, _, T, ts, _, ht => by simpa [putAll] using ht
  | p :: ps, _, _, T, ts, .nil, ht => by simpa [putAll] using ht
  | p :: ps, _, _, T, ts, .cons v c l cs x y, ht => by
    simp only [putAll, List.zip_cons_cons, List.foldl_cons]
    exact putAll_rel y (TRel.put (a := { tmps := ts, defers := [] }) ht x (some p))

theorem lenEq_ok : ∀ {ps : List Nat} {args : List AV}, lenEq ps args = true → ps.length = args.length
  | [], [], _ => rfl
  | _ :: ps, _ :: as, h => by simp only [lenEq] at h; simp [lenEq_ok h]
  | [], _ :: _, h => by cases h
  | _ :: _, [], h => by cases h

/-! ### A call -/
/-- the marks are come to, one by one -/
theorem leavesM {n : Nat} {fn : Func} {tmps : Array Value} {R : Ending → World → Prop} {σ σ' : Sig} {s s' : St} {w : World} : ∀ (rs : List Nat) (w' : World), rs.Nodup → (∀ r ∈ rs, w.heap.size ≤ r ∧ w'.heap[r]? = some (.deferred (some [])) ∧ ∀ id p, s'.get id ≠ none → σ' id = some p → p.block ≠ r) →
    Post C σ s w σ' s' w' → (∀ w'', Post C σ s w σ' s' w'' → ∃ c, (results fn tmps).run P w'' = .ok c w'' ∧ R (.returned c) w'') → LeavesInM F n P fn tmps R (rs.map markOf) .returning w'
  | [], w', _, _, hP, hR => by
    obtain ⟨c, h1, h2⟩ := hR w' hP
    exact ⟨c, h1, h2⟩
  | r :: rs, w', nd, hh, hP, hR => by
    obtain ⟨h1, h2, h3⟩ := hh r List.mem_cons_self
    rw [List.nodup_cons] at nd
    refine ⟨by simp, .inl ⟨r, _, rfl, run_takeDeferred h2, ?_⟩⟩
    refine leavesM rs _ nd.2 (fun x hx => ?_) (hP.aside h1 h3) hR
    obtain ⟨g1, g2, g3⟩ := hh x (List.mem_cons_of_mem _ hx)
    refine ⟨g1, ?_, g3⟩
    rw [World.putObj_heap_other (fun e => nd.1 (by rw [← e]; exact hx))]
    exact g2

/-- a function that the compiler took -/
structure Compiled (C : Ctx) (P : Program) (f : Nat) (af : AFun) : Prop where
  ex : ∃ fn b, P.funcs[f]? = some fn ∧ (fn.name == "runtime.NumGoroutine") = false ∧ fn.body = some b ∧ cFun C fn = some af
theorem Compiled.enter {f : Nat} {af : AFun} (h : Compiled C P f af) (args : Array Value) (w : World) : (callFunc f args).run P w = .ok (.enter f args) w := by
  obtain ⟨fn, b, h1, h2, h3, h4⟩ := h.ex
  have h2' : ¬ fn.name = "runtime.NumGoroutine" := by simpa using h2
  simp [callFunc, h1, h2', h3]

def CallAt (C : Ctx) (P : Program) (F : Fence) (call : Call) (f : Nat) : Prop := ∀ args s v s', call f args s = some (v, s') → ∀ (k : Nat) (σ : Sig) (w : World) (cargs : Array Value), s.base ≤ s.next → HRel C σ s.get w → GOk C σ → VRels σ args cargs.toList →
  (∀ id, s.next ≤ id → id < s'.next → σ id = none) → Comes F k P (Good C σ s w s' v) ((callFunc f cargs).run P w)

theorem callAt_of {prog : Nat → Option AFun} {run : Run} (K : CtxOk C P) (hF : FOk F) (hF0 : F.round = none) (hrs : RunStep run) (hcode : CodeOk C P F run) {f : Nat} {af : AFun} (hp : prog f = some af) (hc : Compiled C P f af) : CallAt C P F (callF prog run) f := by
  intro args s v s' h k σ w cargs hb hH G hv hn
  rw [hc.enter]
  obtain ⟨fn, b, h1, h2, h3, h4⟩ := hc.ex
  unfold cFun at h4
  rw [h3] at h4
  split at h4 <;> first | (cases h4; done) | skip
  rename_i b' r hb' hr
  injection hb' with hb'; subst hb'
  injection h4 with h4; subst h4
  unfold callF at h
  rw [hp] at h
  simp only at h
  have main : ∀ (e : AExit) (T : Tmps) (s1 : St), (e = .normal ∨ e = .ret) → run (cCode C b) (startT args 0 ⟨Nat.max fn.ntmps (llen args), blank, .nil⟩) ⟨s.heap, s.next, s.next, [], s.hid⟩ = some (e, T, s1) → resA s1 T r = some v → s' = ⟨s1.heap, s1.next, s.base, noteAll s s1.wr, s.hid⟩ →
      CallsIn F k P f cargs w fun e w'' => ∃ c, e = .returned c ∧ Good C σ s w s' v c w'' := by
    intro e T s1 he hrun hres hs'
    subst hs'
    refine callsIn_of_wp_marks h1 h3 (hF.fn f) ?_ hF0
    refine hcode b _ _ _ _ _ hrun F (.inl rfl) k _ w.heap.size σ _ w (Nat.le_refl _) hH G (start_rel hv fn.ntmps) (Marks.nil _ _ _ _) (Nat.le_refl _) hn ?_
    rintro a' w' ⟨σ', p1, p2, p3⟩
    have : bodyPostM F k P fn (fun e w'' => ∃ c, e = .returned c ∧ Good C σ s w ⟨s1.heap, s1.next, s.base, noteAll s s1.wr, s.hid⟩ v c w'') (exitOf e) a' w' = LeavesInM F k P fn a'.tmps (fun e w'' => ∃ c, e = .returned c ∧ Good C σ s w ⟨s1.heap, s1.next, s.base, noteAll s s1.wr, s.hid⟩ v c w'') a'.defers .returning w' := by
      rcases he with rfl | rfl <;> rfl
    rw [this]
    obtain ⟨rs, e1, e2, e3⟩ := p3.ex
    rw [e1]
    refine leavesM rs w' e2 e3 p1 fun w'' q => ?_
    obtain ⟨c, c1, c2⟩ := results_ok (P := P) K q.rel p2 hr hres
    exact ⟨c, c1, c, rfl, σ', q.sub, c2⟩
  split at h <;> first | (cases h; done) | skip
  all_goals
    rename_i T s1 hrun
    split at h <;> first | (cases h; done) | skip
    rename_i v' hres
    injection h with h; obtain ⟨rfl, rfl⟩ := pair_inj h
  · exact main _ _ _ (.inl rfl) hrun hres rfl
  · exact main _ _ _ (.inr rfl) hrun hres rfl

/-! ### A round -/
theorem loop_turn {σ : Sig} {s : St} {w : World} (h : HRel C σ s.get w) {l : Nat} {p : Place} {r r' : ALoop} {L L' : Loop} (hg : s.get l = some (.loop r)) (hp : σ l = some p) (hL : w.heap[p.block]? = some (.loop L)) (hr : LRel C σ r' L') :
    Post C σ s w σ (s.set l (.loop r')) (w.putObj p.block (.loop L')) := by
  have hne : s.get l ≠ none := by rw [hg]; simp
  refine post_mod h hne hp rfl rfl rfl rfl (fun j hj => by rw [St.get_set hne, if_neg hj]) (fun b hb => World.putObj_heap_other hb) World.putObj_size rfl rfl rfl fun o ho => ?_
  rw [St.get_set hne, if_pos rfl] at ho
  injection ho with ho; subst ho
  exact ⟨L', World.putObj_heap_same (Array.getElem?_eq_some_iff.1 hL).1, hr⟩

theorem round_of {run : Run} (hF : FOk F) (hrs : RunStep run) (hcode : CodeOk C P F run) : RoundOk C P F (roundF run) := by
  intro l args s v s' h k σ w cargs p hb hH G hp hv hn
  unfold roundF at h
  split at h <;> first | (cases h; done) | skip
  rename_i r hg
  split at h <;> first | (cases h; done) | skip
  rename_i hlen
  split at h <;> first | (cases h; done) | skip
  rename_i T1 s1 h1
  split at h <;> first | (cases h; done) | skip
  rename_i r1 hg1
  split at h <;> first | (cases h; done) | skip
  rename_i hbd
  simp only at h
  split at h <;> first | (cases h; done) | skip
  rename_i e T3 s3 h3
  split at h <;> first | (cases h; done) | skip
  rename_i r3 hg3
  injection h with h; obtain ⟨rfl, rfl⟩ := pair_inj h
  obtain ⟨q, hq, L, hL, hLR⟩ := hH.obj _ _ hg
  rw [hp] at hq; injection hq with hq; subst hq
  have st1 := hrs _ _ _ _ _ _ hb h1
  have a2 : AStep s1 (s1.set l (.loop { r1 with busy := true })) := .set (by rw [hg1]; simp) _
  have st3 := hrs _ _ _ _ _ _ (a2.le (st1.le hb)) h3
  have hnx1 : s1.next ≤ s3.next := Nat.le_trans a2.next st3.next
  have hsz : cargs.size = L.params.size := by
    have h1 := lenEq_ok hlen
    have h2 := hv.length
    have h3 : L.params.toList.length = r.ps.length := by rw [hLR.ps]
    simp at h2 h3
    omega
  rw [run_yield hL hsz]
  have hA := hcode L.assign _ _ _ _ _ (by rw [hLR.assign]; exact h1) (F.inRound p.block) (.inr ⟨⟨_, rfl⟩, by rw [hLR.assign]; exact hLR.noA⟩)
  refine roundIn_of_wpIn (hF.fn _) ?_
  refine hA k _ w.heap.size σ _ w hb hH G ?_ (Marks.nil _ _ _ _) (Nat.le_refl _) (hn_le hnx1 hn) ?_
  · have := putAll_rel (ps := r.ps) hv hLR.tmps
    rw [← hLR.ps] at this
    rw [← hLR.ps, ← Array.foldl_toList, Array.toList_zip]
    exact this
  · rintro a1 w1 ⟨σ1, p1, p2, p3⟩
    obtain ⟨q1, hq1, L1, hL1, hLR1⟩ := p1.rel.obj _ _ hg1
    have := p1.ext.sub _ _ hp
    rw [hq1] at this; injection this with this; subst this
    have hready : L1.state = .ready := by
      rw [hLR1.state]
      cases h1 : r1.busy <;> cases h2 : r1.done <;> simp [h1, h2] at hbd ⊢
    have t1 := loop_turn (r' := { r1 with busy := true }) (L' := { L1 with state := .busy }) p1.rel hg1 hq1 hL1 { hLR1 with state := rfl }
    have t2 := p1.trans t1 (hn_le hnx1 hn)
    refine ⟨_, run_beginRound hL1 hready, ?_⟩
    have hB := hcode L.body _ _ _ _ _ (by rw [hLR.body]; exact h3) (F.inRound q1.block) (.inr ⟨⟨_, rfl⟩, by rw [hLR.body]; exact hLR.noB⟩)
    refine hB k _ w.heap.size σ1 a1 _ (a2.le (st1.le hb)) t1.rel (G.mono p1.ext.sub) p2 (p3.post t1 p1.rel (fun id x y => absurd x (by simp only [St.set] at y; omega))) (by rw [World.putObj_size]; exact p1.size) (grow_none t2 st3.next hn) ?_
    rintro a3 w3 ⟨σ3, r1', r2', r3'⟩
    have hn3 := grow_none t2 (s2 := s3) st3.next hn
    obtain ⟨q3, hq3, L3, hL3, hLR3⟩ := r1'.rel.obj _ _ hg3
    have := r1'.ext.sub _ _ hq1
    rw [hq3] at this; injection this with this; subst this
    have fin : ∀ (go : Bool) (jump : Option Code), PendRel e jump → jump.isNone = go → (∃ v' w', (Instr.endRound q3.block jump).run P w3 = .ok v' w' ∧
        ∃ c, Ending.returned v' = .returned c ∧ Good C σ s w (s3.set l (.loop { r3 with busy := false, done := !go, pend := e })) (.bool go) c w') := by
      intro go jump hpd hgo
      refine ⟨_, _, run_endRound jump hL3, _, rfl, σ3, ?_, ?_⟩
      · refine (t2.trans r1' hn).trans (loop_turn (r' := { r3 with busy := false, done := !go, pend := e }) r1'.rel hg3 hq3 hL3 { hLR3 with state := ?_, pend := hpd }) hn
        rw [hgo]
        cases go <;> rfl
      · rw [hgo]; exact .bool _
    cases e with
    | normal => exact fin true none trivial rfl
    | exit i => exact fin false (some (.exit i)) rfl rfl
    | ret => exact fin false (some .ret) trivial rfl

/-! ### The induction -/
/-- every function of the abstract program is compiled, or has a contract of its own -/
structure ProgOk (C : Ctx) (P : Program) (F : Fence) (prog : Nat → Option AFun) : Prop where
  fn : ∀ f af, prog f = some af → Compiled C P f af ∨ ∀ n, CodeOk C P F (run prog n) → CallAt C P F (callF prog (run prog n)) f
  enter : EnterOk P prog

theorem run_ok {prog : Nat → Option AFun} (K : CtxOk C P) (hF : FOk F) (hF0 : F.round = none) (hm : P.follows .mixedOrders = true) (hP : ProgOk C P F prog) : ∀ n, CodeOk C P F (run prog n) ∧ LoopOk C P F n (run prog n) ∧ CallOk C P F (callF prog (run prog n))
  | 0 => by
    have hC : CodeOk C P F (run prog 0) := fun _ _ _ _ _ _ h => by cases h
    refine ⟨hC, fun _ _ _ _ _ _ h => (by cases h), fun f args s v s' h => ?_⟩
    exfalso
    unfold callF at h
    split at h
    · cases h
    · simp [run] at h
  | n + 1 => by
    obtain ⟨h1, h2, h3⟩ := run_ok K hF hF0 hm hP n
    have hs := run_step prog n
    obtain ⟨g1, g2⟩ := code_step K hF hF0 hm hP.enter hs h3 (round_of hF hs h1) h1 h2
    refine ⟨g1, g2, fun f args s v s' h => ?_⟩
    cases hp : prog f with
    | none => exact absurd hp (callF_prog h)
    | some af =>
      rcases hP.fn f af hp with hc | hc
      · exact callAt_of K hF hF0 (run_step prog (n + 1)) g1 hp hc args s v s' h
      · exact hc (n + 1) g1 args s v s' h

end Go.Qa
end

/- Functions without a body: contracts. -/
section
namespace Go.Qa
variable {P : Program} {C : Ctx} {F : Fence}

/-- an extern's row -/
structure ExtOk (P : Program) (f : Nat) (e : Array Value → Sem Value) : Prop where
  ex : ∃ fn, P.funcs[f]? = some fn ∧ (fn.name == "runtime.NumGoroutine") = false ∧ fn.body = none ∧ (Extern.findNext fn).isNone = true ∧ Extern.find fn = some e
theorem ExtOk.call {f : Nat} {e : Array Value → Sem Value} (h : ExtOk P f e) (args : Array Value) {w w' : World} {v : Value} (he : (e args).run P w = .ok v w') : (callFunc f args).run P w = .ok (.value v) w' := by
  obtain ⟨fn, h1, h2, h3, h4, h5⟩ := h.ex
  have h2' : ¬ fn.name = "runtime.NumGoroutine" := by simpa using h2
  have h4' : Extern.findNext fn = none := Option.isNone_iff_eq_none.1 h4
  simp [callFunc, h1, h2', h3, h4', h5, he]

/-- what a native function of the machine comes to -/
theorem native_inv {prog : Nat → Option AFun} {n f : Nat} {k : NatK} (hp : prog f = some ⟨arityN k, [.tmp 0], .native k⟩) {args : List AV} {s s' : St} {v : AV} (h : callF prog (run prog n) f args s = some (v, s')) :
    args.length ≤ arityN k ∧ ∃ s1, nativeB k (args.getD 0 .undef) (args.getD 1 .undef) ⟨s.heap, s.next, s.next, [], s.hid⟩ = some (v, s1) ∧ s' = ⟨s1.heap, s1.next, s.base, noteAll s s1.wr, s.hid⟩ := by
  unfold callF at h
  rw [hp] at h
  simp only at h
  cases n with
  | zero => simp [run] at h
  | succ n =>
    have hstep : ∀ T t, run prog (n + 1) (.native k) T t = (match nativeA k T.n (T.get 0) (T.get 1) t with
      | some (v, s') => some (.normal, T.put 0 v, s')
      | none => none) := fun T t => rfl
    rw [hstep] at h
    have hlen : (⟨Nat.max (arityN k) (llen args), blank, .nil⟩ : Tmps).n = max (arityN k) args.length := by
      show Nat.max _ _ = _
      rw [llen_eq]
    have hg : ∀ i, (startT args 0 ⟨Nat.max (arityN k) (llen args), blank, .nil⟩).get i = args.getD i .undef := fun i => by
      rw [startT_get _ _ _ _ (by rw [hlen]; omega)]
      by_cases hi : i < args.length
      · rw [if_pos ⟨Nat.zero_le _, by omega⟩, Nat.sub_zero]
      · rw [if_neg (by omega), Tmps.get_blank]
        simp [List.getD, List.getElem?_eq_none (by omega : args.length ≤ i)]
    rw [hg, hg, startT_n, hlen] at h
    unfold nativeA at h
    cases hb : Nat.beq (max (arityN k) args.length) (arityN k) with
    | false => rw [hb] at h; simp at h
    | true =>
      rw [hb] at h
      have hle : args.length ≤ arityN k := by
        rw [beq_iff] at hb
        have := of_decide_eq_true hb
        omega
      refine ⟨hle, ?_⟩
      cases hn : nativeB k (args.getD 0 .undef) (args.getD 1 .undef) ⟨s.heap, s.next, s.next, [], s.hid⟩ with
      | none => rw [hn] at h; simp at h
      | some x =>
        obtain ⟨v1, s1⟩ := x
        rw [hn] at h
        simp only [resA, mapRes] at h
        have hv : ((startT args 0 ⟨Nat.max (arityN k) (llen args), blank, .nil⟩).put 0 v1).get 0 = v1 := by
          rw [Tmps.get_put, startT_n, hlen, if_pos ⟨rfl, by cases k <;> simp only [arityN] <;> omega⟩]
        rw [hv] at h
        injection h with h; obtain ⟨rfl, rfl⟩ := pair_inj h
        exact ⟨s1, rfl, rfl⟩

theorem noteAll_nil (s : St) : (⟨s.heap, s.next, s.base, noteAll s [], s.hid⟩ : St) = s := by cases s; rfl

theorem args1 {σ : Sig} {args : List AV} {cargs : Array Value} (hv : VRels σ args cargs.toList) (hl : args.length ≤ 1) {x : AV} (hx : args.getD 0 .undef = x) (hne : x ≠ .undef) : ∃ c, cargs = #[c] ∧ VRel σ x c := by
  cases args with
  | nil => exact absurd hx.symm hne
  | cons a l =>
    cases l with
    | cons b l => simp at hl
    | nil =>
      simp at hx; subst hx
      obtain ⟨l⟩ := cargs
      cases hv with
      | cons _ c _ cs r1 r2 => cases r2; exact ⟨c, rfl, r1⟩
theorem args2 {σ : Sig} {args : List AV} {cargs : Array Value} (hv : VRels σ args cargs.toList) (hl : args.length ≤ 2) {x y : AV} (hx : args.getD 0 .undef = x) (hy : args.getD 1 .undef = y) (hne : y ≠ .undef) : ∃ c d, cargs = #[c, d] ∧ VRel σ x c ∧ VRel σ y d := by
  cases args with
  | nil => exact absurd hy.symm hne
  | cons a l =>
    cases l with
    | nil => exact absurd hy.symm hne
    | cons b l =>
      cases l with
      | cons e l => simp at hl
      | nil =>
        simp at hx hy; subst hx; subst hy
        obtain ⟨l⟩ := cargs
        cases hv with
        | cons _ c _ cs r1 r2 => cases r2 with
          | cons _ d _ ds r3 r4 => cases r4; exact ⟨c, d, rfl, r1, r3⟩

theorem same_at {prog : Nat → Option AFun} {n f : Nat} (hp : prog f = some ⟨1, [.tmp 0], .native .same⟩) (he : ExtOk P f Extern.AbiNoEscape.same) : CallAt C P F (callF prog (run prog n)) f := by
  intro args s v s' h k σ w cargs hb hH G hv hn
  obtain ⟨hl, s1, h1, rfl⟩ := native_inv (k := .same) hp h
  have key : ∀ x, args.getD 0 .undef = x → x ≠ .undef → v = x → s1 = ⟨s.heap, s.next, s.next, [], s.hid⟩ → Comes F k P (Good C σ s w ⟨s1.heap, s1.next, s.base, noteAll s s1.wr, s.hid⟩ v) ((callFunc f cargs).run P w) := by
    intro x hx hne e1 e2
    subst e1; subst e2
    obtain ⟨c, rfl, hr⟩ := args1 hv hl hx hne
    rw [he.call #[c] (w := w) (w' := w) (v := c) rfl]
    refine ⟨σ, ?_, hr⟩
    rw [noteAll_nil s]
    exact .refl hH
  unfold nativeB at h1
  split at h1
  · rename_i hk hx hy; cases hk
  · rename_i hk hx hy; cases hk
  · rename_i hk hx
    injection h1 with h1; obtain ⟨rfl, rfl⟩ := pair_inj h1
    exact key _ hx (by simp) rfl rfl
  · rename_i hk hx
    injection h1 with h1; obtain ⟨rfl, rfl⟩ := pair_inj h1
    exact key _ hx (by simp) rfl rfl
  · rename_i hk hx; cases hk
  · cases h1

/-! ### Bytes of strings -/
theorem str_bytes {σ : Sig} {b : List Nat} {c : Value} (h : VRel σ (.str b) c) : ∃ bs : ByteArray, c = .string bs ∧ bs.data.toList.map (·.toNat) = b := by
  cases h with
  | str l s e => exact ⟨s, rfl, e⟩
def idxOf : Option Nat → Int
  | some i => (i : Int)
  | none => -1
theorem eq8 {b : UInt8} {c : Nat} (hc : c < 256) : (b == c.toUInt8) = decide (b.toNat = c) := by
  have h8 : c.toUInt8.toNat = c := by simp [Nat.toUInt8, Nat.mod_eq_of_lt hc]
  by_cases h : b = c.toUInt8
  · subst h; simp [h8]
  · have : ¬ b.toNat = c := fun e => h (by rw [← e]; simp)
    simp [h, this]
theorem findByte_ok {c : Nat} (hc : c < 256) : ∀ (l : List UInt8) (i : Nat), idxOf (findByte c (l.map (·.toNat)) i) = if Lib.indexByte l c.toUInt8 = -1 then -1 else Lib.indexByte l c.toUInt8 + i
  | [], i => rfl
  | b :: l, i => by
    have ih := findByte_ok hc l (i + 1)
    have hge := Lib.indexByte_ge l c.toUInt8
    simp only [List.map_cons, findByte, beq_iff, Lib.indexByte, eq8 hc]
    by_cases h : b.toNat = c
    · rw [decide_eq_true h]
      simp [idxOf]
    · rw [decide_eq_false h]
      simp only [Bool.false_eq_true, if_false]
      rw [ih]
      by_cases h2 : Lib.indexByte l c.toUInt8 = -1
      · simp [h2]
      · have h3 : (Lib.indexByte l c.toUInt8 == -1) = false := by simpa using h2
        rw [if_neg h2, h3]
        simp only [Bool.false_eq_true, if_false]
        rw [if_neg (by omega)]
        push_cast
        omega
theorem countByte_ok {c : Nat} (hc : c < 256) : ∀ (l : List UInt8) (n : Nat), countByte c (l.map (·.toNat)) n = n + Lib.countByte l c.toUInt8
  | [], n => rfl
  | b :: l, n => by
    simp only [List.map_cons, countByte, beq_iff, Lib.countByte, List.count_cons, eq8 hc]
    by_cases h : b.toNat = c
    · rw [decide_eq_true h]
      simp only [if_true]
      rw [countByte_ok hc l]
      simp only [Lib.countByte, Nat.succ_eq_add_one]
      omega
    · rw [decide_eq_false h]
      simp only [Bool.false_eq_true, if_false]
      rw [countByte_ok hc l]
      simp only [Lib.countByte]
      omega

theorem indexByte_at {prog : Nat → Option AFun} {n f : Nat} (hp : prog f = some ⟨2, [.tmp 0], .native .indexByte⟩) (he : ExtOk P f Extern.BytealgIndexByte.indexByte) : CallAt C P F (callF prog (run prog n)) f := by
  intro args s v s' h k σ w cargs hb hH G hv hn
  obtain ⟨hl, s1, h1, rfl⟩ := native_inv (k := .indexByte) hp h
  unfold nativeB at h1
  split at h1
  · rename_i b c hk hx hy
    obtain ⟨x, y, rfl, r1, r2⟩ := args2 hv hl hx hy (by simp)
    obtain ⟨bs, rfl, hbs⟩ := str_bytes r1
    cases r2
    have hc : c < 256 := by
      split at h1 <;> first | (rename_i hc _; exact Nat.le_of_ble_eq_true hc) | (cases h1; done)
    have hres : s1 = ⟨s.heap, s.next, s.next, [], s.hid⟩ ∧ v = .int .i64 (idxOf (findByte c b 0)) := by
      split at h1 <;> first | (cases h1; done) | skip
      · rename_i hf; injection h1 with h1; obtain ⟨rfl, rfl⟩ := pair_inj h1; rw [hf]; exact ⟨rfl, rfl⟩
      · rename_i hf; injection h1 with h1; obtain ⟨rfl, rfl⟩ := pair_inj h1; rw [hf]; exact ⟨rfl, rfl⟩
    obtain ⟨rfl, rfl⟩ := hres
    have hrun := Lib.run_indexByteString (P := P) bs (Int.ofNat c) w
    rw [he.call _ hrun]
    refine ⟨σ, ?_, ?_⟩
    · rw [noteAll_nil s]; exact .refl hH
    · rw [← hbs, findByte_ok hc]
      have : (if Lib.indexByte bs.data.toList c.toUInt8 = -1 then -1 else Lib.indexByte bs.data.toList c.toUInt8 + ((0 : Nat) : Int)) = Lib.indexByte bs.data.toList c.toUInt8 := by
        split <;> omega
      rw [this]
      exact .int _ _
  · rename_i hk hx hy; cases hk
  · rename_i hk hx; cases hk
  · rename_i hk hx; cases hk
  · rename_i hk hx; cases hk
  · cases h1
theorem count_at {prog : Nat → Option AFun} {n f : Nat} (hp : prog f = some ⟨2, [.tmp 0], .native .count⟩) (he : ExtOk P f Extern.BytealgCount.count) : CallAt C P F (callF prog (run prog n)) f := by
  intro args s v s' h k σ w cargs hb hH G hv hn
  obtain ⟨hl, s1, h1, rfl⟩ := native_inv (k := .count) hp h
  unfold nativeB at h1
  split at h1
  · rename_i b c hk hx hy; cases hk
  · rename_i b c hk hx hy
    obtain ⟨x, y, rfl, r1, r2⟩ := args2 hv hl hx hy (by simp)
    obtain ⟨bs, rfl, hbs⟩ := str_bytes r1
    cases r2
    split at h1 <;> first | (cases h1; done) | skip
    rename_i hc
    have hc : c < 256 := Nat.le_of_ble_eq_true hc
    injection h1 with h1; obtain ⟨rfl, rfl⟩ := pair_inj h1
    have hrun := Lib.run_countString (P := P) bs (Int.ofNat c) w
    rw [he.call _ hrun]
    refine ⟨σ, ?_, ?_⟩
    · rw [noteAll_nil s]; exact .refl hH
    · rw [← hbs, countByte_ok hc, Nat.zero_add]
      exact .int _ _
  · rename_i hk hx; cases hk
  · rename_i hk hx; cases hk
  · rename_i hk hx; cases hk
  · cases h1

theorem noZero_at {prog : Nat → Option AFun} {n f el t : Nat} {ps : Array TypeId} (K : CtxOk C P) (hp : prog f = some ⟨1, [.tmp 0], .native (.noZero el)⟩) (he : ExtOk P f (Extern.BytealgMakeNoZero.makeNoZero ps #[t])) (hu : C.I.under t = some (.slice el)) :
    CallAt C P F (callF prog (run prog n)) f := by
  intro args s v s' h k σ w cargs hb hH G hv hn
  obtain ⟨hl, s1, h1, rfl⟩ := native_inv (k := .noZero el) hp h
  unfold nativeB at h1
  split at h1
  · rename_i hk hx hy; cases hk
  · rename_i hk hx hy; cases hk
  · rename_i hk hx; cases hk
  · rename_i hk hx; cases hk
  · rename_i elem m hk hx
    injection hk with hk; subst hk
    obtain ⟨c, rfl, hr⟩ := args1 hv hl hx (by simp)
    cases hr
    split at h1 <;> first | (cases h1; done) | skip
    rename_i hm hbig
    have hm : m < 1073741824 := Nat.le_of_ble_eq_true hm
    injection h1 with h1; obtain ⟨rfl, rfl⟩ := pair_inj h1
    have hn0 : σ s.next = none := hn _ (Nat.le_refl _) (Nat.lt_succ_self _)
    obtain ⟨cs, hrun, hcap, _⟩ := Lib.run_makeNoZero (P := P) w ps t el (K.under hu) m (by omega)
    have hcall := he.call _ hrun
    have hcall : (callFunc f #[.int .i64 (Int.ofNat m)]).run P w = _ := hcall
    rw [hcall]
    have hP : Post C σ ⟨s.heap, s.next, s.next, [], s.hid⟩ w (σ.ins s.next ⟨w.heap.size, 0, cs.size⟩) (St.new ⟨s.heap, s.next, s.next, [], s.hid⟩ (.cells [] el false)) (w.drew.drew.alloc (.cells cs el)) :=
      (post_new (w := w.drew.drew) (s := ⟨s.heap, s.next, s.next, [], s.hid⟩) hH.drew.drew hn0 (.cells [] el false) (.cells cs el) 0 cs.size
        ⟨cs, (0, 0), rfl, by simp, Nat.zero_le _, by simp; exact .nil, .inl rfl, fun _ i hi => by omega, fun n _ => Nat.dvd_zero n⟩).drew.drew
    refine ⟨σ.ins s.next ⟨w.heap.size, 0, cs.size⟩, hP.sub, ?_⟩
    have := VRel.slo (σ := σ.ins s.next ⟨w.heap.size, 0, cs.size⟩) s.next 0 m 1 0 cs.size _ (Sig.ins_self _ _ _) (by decide) (by simp) hcap (fun _ => rfl) (Nat.dvd_zero _)
    simpa using this
  · cases h1

end Go.Qa
end

/- A run in pieces: between two of them, blocks that nobody needs any more are forgotten. -/
section
namespace Go.Qa
variable {P : Program} {C : Ctx} {F : Fence}

/-- the same state, with blocks forgotten -/
structure Less (s t : St) : Prop where
  next : s.next = t.next
  base : s.base = t.base
  hid : s.hid = t.hid
  wr : s.wr = t.wr
  get : ∀ id o, s.get id = some o → t.get id = some o
theorem Less.live {s t : St} (h : Less s t) {id : Nat} (hg : s.get id ≠ none) : t.get id ≠ none := by
  cases hx : s.get id with
  | none => exact absurd hx hg
  | some o => rw [h.get id o hx]; simp
theorem Post.forget {σ σ' : Sig} {s s' t : St} {w w' : World} (h : Post C σ s w σ' s' w') (hl : Less t s') : Post C σ s w σ' t w' where
  ext := ⟨h.ext.sub, fun id p a b => by rw [hl.next]; exact h.ext.new id p a b⟩
  rel := h.rel.less (fun _ _ h => h) hl.get (fun _ _ _ _ => rfl)
  size := h.size
  frame := fun b hb H => h.frame b hb fun id p a c d => by rw [← hl.wr]; exact H id p a c d
  fresh := fun id p a b => by rw [hl.wr]; exact h.fresh id p a b
  next := by rw [hl.next]; exact h.next
  base := by rw [hl.base]; exact h.base
  hid := by rw [hl.hid]; exact h.hid
  wr := fun x hx => by rw [hl.wr]; exact h.wr x hx
  os := h.os
  tape := h.tape
  output := h.output
  kept := fun id hg => by rw [hl.next]; exact h.kept id (hl.live hg)
theorem Marks.forget {σ : Sig} {s t : St} {w : World} {B : Nat} {ds : List Deferred} (m : Marks σ s.get w B ds) (hl : Less t s) : Marks σ t.get w B ds := by
  obtain ⟨rs, e, nd, hh⟩ := m.ex
  exact ⟨rs, e, nd, fun r hr => ⟨(hh r hr).1, (hh r hr).2.1, fun id p a b => (hh r hr).2.2 id p (hl.live a) b⟩⟩
theorem DoneC.forget {B : Nat} {σ : Sig} {s s' t : St} {w w' : World} {T' : Tmps} {a' : Act} (d : DoneC C B σ s w T' s' a' w') (hl : Less t s') : DoneC C B σ s w T' t a' w' := by
  obtain ⟨σ', p1, p2, p3⟩ := d
  exact ⟨σ', p1.forget hl, p2, p3.forget hl⟩

/-- a code's run, in pieces -/
inductive RunsF (prog : Nat → Option AFun) : ACode → Tmps → St → AExit → Tmps → St → Prop
  | run (n : Nat) (c : ACode) (T : Tmps) (s : St) (e : AExit) (T' : Tmps) (s' : St) : run prog n c T s = some (e, T', s') → RunsF prog c T s e T' s'
  | seq (a b : ACode) (T T1 T' : Tmps) (s s1 t s' : St) (e : AExit) : RunsF prog a T s .normal T1 s1 → Less t s1 → RunsF prog b T1 t e T' s' → RunsF prog (.seq a b) T s e T' s'

theorem RunsF.step {prog : Nat → Option AFun} {c : ACode} {T T' : Tmps} {s s' : St} {e : AExit} (h : RunsF prog c T s e T' s') : s.base ≤ s.next → s.next ≤ s'.next ∧ s'.base = s.base := by
  induction h with
  | run n c T s e T' s' h => intro hb; have := run_step prog n _ _ _ _ _ _ hb h; exact ⟨this.next, this.base⟩
  | seq a b T T1 T' s s1 t s' e h1 hl h2 ih1 ih2 =>
    intro hb
    obtain ⟨a1, a2⟩ := ih1 hb
    obtain ⟨b1, b2⟩ := ih2 (by rw [hl.base, hl.next, a2]; omega)
    rw [hl.next] at b1
    rw [hl.base] at b2
    exact ⟨Nat.le_trans a1 b1, b2.trans a2⟩

/-- what the model does of a run in pieces -/
theorem runsF_ok {prog : Nat → Option AFun} (hcode : ∀ n, CodeOk C P F (run prog n)) {c : ACode} {T T' : Tmps} {s s' : St} {e : AExit} (h : RunsF prog c T s e T' s') :
    ∀ code : Code, cCode C code = c → CodeAt C F (noRF c) T s e T' s' fun F' n Q a w => code.wpIn F' n P Q a w := by
  induction h with
  | run n c T s e T' s' h => intro code hc; subst hc; exact hcode n code T s e T' s' h
  | seq x y T T1 T' s s1 t s' e h1 hl h2 ih1 ih2 =>
    intro code hc
    cases code with
    | seq cx cy =>
      simp only [cCode] at hc
      injection hc with e1 e2
      intro F' hF' n Q B σ a w hb h G ht mk hB hn hQ
      have hx : (F' = F ∨ (∃ l, F' = F.inRound l) ∧ noRF x = true) := hF'.imp (fun h => h) fun ⟨a, b⟩ => ⟨a, by simp only [noRF, Bool.and_eq_true] at b; exact b.1⟩
      have hy : (F' = F ∨ (∃ l, F' = F.inRound l) ∧ noRF y = true) := hF'.imp (fun h => h) fun ⟨a, b⟩ => ⟨a, by simp only [noRF, Bool.and_eq_true] at b; exact b.2⟩
      obtain ⟨g1, g2⟩ := h1.step hb
      have hbt : t.base ≤ t.next := by rw [hl.base, hl.next, g2]; omega
      obtain ⟨g3, g4⟩ := h2.step hbt
      refine wpIn_seq ?_
      refine ih1 cx e1 F' hx n _ B σ a w hb h G ht mk hB (fun id q1 q2 => hn id q1 (by rw [hl.next] at g3; omega)) ?_
      intro a1 w1 d
      have d := d.forget hl
      obtain ⟨σ1, p1, p2, p3⟩ := d
      exact ih2 cy e2 F' hy n Q B σ1 a1 w1 hbt p1.rel (G.mono p1.ext.sub) p2 p3 (Nat.le_trans hB p1.size) (grow_none p1 g3 hn) fun a' w' d => hQ a' w' (d.trans p1 hn)
    | region i ops dr =>
      simp only [cCode] at hc
      split at hc <;> cases hc
    | cond c x y =>
      simp only [cCode] at hc
      split at hc <;> cases hc
    | rangeFunc f ps x y =>
      simp only [cCode] at hc
      split at hc <;> cases hc
    | _ => simp only [cCode] at hc; cases hc

/-- a function's contract, out of a run of its body in pieces -/
theorem call_of_pieces {prog : Nat → Option AFun} (K : CtxOk C P) (hF : FOk F) (hF0 : F.round = none) (hcode : ∀ n, CodeOk C P F (run prog n)) {f : Nat} {af : AFun} (hc : Compiled C P f af) {args : List AV} {s s1 : St} {v : AV} {T : Tmps} {e : AExit}
    (he : e = .normal ∨ e = .ret) (hrun : RunsF prog af.body (startT args 0 ⟨Nat.max af.ntmps (llen args), blank, .nil⟩) ⟨s.heap, s.next, s.next, [], s.hid⟩ e T s1) (hres : resA s1 T af.res = some v)
    (k : Nat) (σ : Sig) (w : World) (cargs : Array Value) (hH : HRel C σ s.get w) (G : GOk C σ) (hv : VRels σ args cargs.toList) (hn : ∀ id, s.next ≤ id → id < s1.next → σ id = none) :
    CallsIn F k P f cargs w fun e w'' => ∃ c, e = .returned c ∧ Good C σ s w ⟨s1.heap, s1.next, s.base, noteAll s s1.wr, s.hid⟩ v c w'' := by
  obtain ⟨fn, b, h1, h2, h3, h4⟩ := hc.ex
  unfold cFun at h4
  rw [h3] at h4
  split at h4 <;> first | (cases h4; done) | skip
  rename_i b' r hb' hr
  injection hb' with hb'; subst hb'
  injection h4 with h4; subst h4
  refine callsIn_of_wp_marks h1 h3 (hF.fn f) ?_ hF0
  refine runsF_ok hcode hrun b rfl F (.inl rfl) k _ w.heap.size σ _ w (Nat.le_refl _) hH G (start_rel hv fn.ntmps) (Marks.nil _ _ _ _) (Nat.le_refl _) hn ?_
  rintro a' w' ⟨σ', p1, p2, p3⟩
  have : bodyPostM F k P fn (fun e w'' => ∃ c, e = .returned c ∧ Good C σ s w ⟨s1.heap, s1.next, s.base, noteAll s s1.wr, s.hid⟩ v c w'') (exitOf e) a' w' = LeavesInM F k P fn a'.tmps (fun e w'' => ∃ c, e = .returned c ∧ Good C σ s w ⟨s1.heap, s1.next, s.base, noteAll s s1.wr, s.hid⟩ v c w'') a'.defers .returning w' := by
    rcases he with rfl | rfl <;> rfl
  rw [this]
  obtain ⟨rs, e1, e2, e3⟩ := p3.ex
  rw [e1]
  refine leavesM rs w' e2 e3 p1 fun w'' q => ?_
  obtain ⟨c, c1, c2⟩ := results_ok (P := P) K q.rel p2 hr hres
  exact ⟨c, c1, c, rfl, σ', q.sub, c2⟩

end Go.Qa
end

/- More fuel, the same answer. -/
section
namespace Go.Qa

def LeC (c c' : Call) : Prop := ∀ f args s x, c f args s = some x → c' f args s = some x
def LeR (r r' : Run) : Prop := ∀ c T s x, r c T s = some x → r' c T s = some x

theorem doOp_mono {c c' r r' : Call} (hc : LeC c c') (hr : LeC r r') {o : AOp} {T : Tmps} {s : St} {x : AV × St} (h : doOp c r o T s = some x) : doOp c' r' o T s = some x := by
  unfold doOp at *
  split at h <;> first | (cases h; done) | skip
  · exact h
  · exact hc _ _ _ _ h
  · exact hr _ _ _ _ h
theorem runOps_mono {c c' r r' : Call} (hc : LeC c c') (hr : LeC r r') : ∀ {l : List AOper} {T : Tmps} {s : St} {x : Tmps × St}, runOps c r l T s = some x → runOps c' r' l T s = some x
  | [], T, s, x, h => h
  | o :: l, T, s, x, h => by
    simp only [runOps] at *
    split at h
    · exact runOps_mono hc hr h
    · split at h <;> first | (cases h; done) | skip
      rename_i v s' hd
      rw [doOp_mono hc hr hd]
      exact runOps_mono hc hr h
theorem runOpsD_mono {c c' r r' : Call} (hc : LeC c c') (hr : LeC r r') : ∀ {l : List AOper} {n : Nat} {sofar : List Touch} {T : Tmps} {s : St} {x : Tmps × St}, runOpsD c r l n sofar T s = some x → runOpsD c' r' l n sofar T s = some x
  | [], n, sofar, T, s, x, h => h
  | o :: l, n, sofar, T, s, x, h => by
    simp only [runOpsD] at *
    split at h
    · exact runOpsD_mono hc hr h
    · split at h <;> first | (cases h; done) | skip
      rename_i hh
      split at h <;> first | (cases h; done) | skip
      rename_i v s' hd
      rw [doOp_mono hc hr hd]
      simp only
      split at h <;> first | (cases h; done) | skip
      exact runOpsD_mono hc hr h
theorem callF_mono {prog : Nat → Option AFun} {r r' : Run} (h : LeR r r') : LeC (callF prog r) (callF prog r') := by
  intro f args s x hx
  unfold callF at *
  split at hx <;> first | (cases hx; done) | skip
  split at hx <;> first | (cases hx; done) | skip
  all_goals
    rename_i hrun
    rw [h _ _ _ _ hrun]
    exact hx
theorem roundF_mono {r r' : Run} (h : LeR r r') : LeC (roundF r) (roundF r') := by
  intro f args s x hx
  unfold roundF at *
  split at hx <;> first | (cases hx; done) | skip
  split at hx <;> first | (cases hx; done) | skip
  split at hx <;> first | (cases hx; done) | skip
  rename_i h1
  rw [h _ _ _ _ h1]
  simp only
  split at hx <;> first | (cases hx; done) | skip
  rename_i h2
  split at hx <;> first | (cases hx; done) | skip
  rename_i h3
  rw [if_neg h3]
  simp only at hx
  split at hx <;> first | (cases hx; done) | skip
  rename_i h4
  rw [h _ _ _ _ h4]
  exact hx
theorem step_mono {prog : Nat → Option AFun} {r r' : Run} (h : LeR r r') : LeR (step prog r) (step prog r') := by
  intro c T s x hx
  have hc := callF_mono (prog := prog) h
  have hr := roundF_mono h
  cases c with
  | skip => exact hx
  | region draw ops =>
    simp only [step] at *
    cases draw with
    | false =>
      simp only at *
      split at hx <;> first | (cases hx; done) | skip
      rename_i h1
      rw [runOps_mono hc hr h1]
      exact hx
    | true =>
      simp only at *
      split at hx <;> first | (cases hx; done) | skip
      rename_i h1
      rw [runOpsD_mono hc hr h1]
      exact hx
  | seq a b =>
    simp only [step] at *
    split at hx <;> first | (cases hx; done) | skip
    · rename_i h1
      rw [h _ _ _ _ h1]
      exact h _ _ _ _ hx
    · rename_i e T' s' hne h1
      rw [h _ _ _ _ h1]
      cases e with
      | normal => exact (hne rfl).elim
      | exit i => exact hx
      | ret => exact hx
  | cond c a b =>
    simp only [step] at *
    split at hx <;> first | (cases hx; done) | exact h _ _ _ _ hx
  | block id c =>
    simp only [step] at *
    split at hx
    · rename_i h1
      rw [h _ _ _ _ h1]
      exact hx
    · rename_i hne
      rw [h _ _ _ _ hx]
      obtain ⟨e, T', s'⟩ := x
      cases e with
      | normal => rfl
      | exit i => exact absurd hx (hne _ _ _)
      | ret => rfl
  | loop c =>
    simp only [step] at *
    split at hx
    · rename_i h1
      rw [h _ _ _ _ h1]
      exact h _ _ _ _ hx
    · rename_i hne
      rw [h _ _ _ _ hx]
      obtain ⟨e, T', s'⟩ := x
      cases e with
      | normal => exact absurd hx (hne _ _)
      | exit i => rfl
      | ret => rfl
  | scope c => exact h _ _ _ _ hx
  | exit id => exact hx
  | ret => exact hx
  | rangeF f ps a b =>
    simp only [step] at *
    split at hx <;> first | (cases hx; done) | skip
    split at hx <;> first | (cases hx; done) | skip
    split at hx <;> first | (cases hx; done) | skip
    rename_i h4
    rw [hc _ _ _ _ h4]
    exact hx
  | mapIt a => exact hx
  | native k => exact hx
  | bad => exact hx
theorem run_succ (prog : Nat → Option AFun) : ∀ n, LeR (run prog n) (run prog (n + 1))
  | 0 => fun _ _ _ _ h => by cases h
  | n + 1 => step_mono (run_succ prog n)
theorem run_le (prog : Nat → Option AFun) {n : Nat} : ∀ {m : Nat}, n ≤ m → LeR (run prog n) (run prog m)
  | 0, h => by have : n = 0 := by omega
               subst this; exact fun _ _ _ _ h => h
  | m + 1, h => by
    by_cases e : n = m + 1
    · subst e; exact fun _ _ _ _ h => h
    · exact fun c T s x hx => run_succ prog m c T s x (run_le prog (by omega) c T s x hx)

/-- with fuel enough -/
def Runs (prog : Nat → Option AFun) (c : ACode) (T : Tmps) (s : St) (e : AExit) (T' : Tmps) (s' : St) : Prop := ∃ n, run prog n c T s = some (e, T', s')
def CallsA (prog : Nat → Option AFun) (f : Nat) (args : List AV) (s : St) (v : AV) (s' : St) : Prop := ∃ n, callF prog (run prog n) f args s = some (v, s')
def RoundsA (prog : Nat → Option AFun) (l : Nat) (args : List AV) (s : St) (v : AV) (s' : St) : Prop := ∃ n, roundF (run prog n) l args s = some (v, s')
def OpsA (prog : Nat → Option AFun) (l : List AOper) (T : Tmps) (s : St) (T' : Tmps) (s' : St) : Prop := ∃ n, runOps (callF prog (run prog n)) (roundF (run prog n)) l T s = some (T', s')
def OpsDA (prog : Nat → Option AFun) (l : List AOper) (i : Nat) (sofar : List Touch) (T : Tmps) (s : St) (T' : Tmps) (s' : St) : Prop := ∃ n, runOpsD (callF prog (run prog n)) (roundF (run prog n)) l i sofar T s = some (T', s')
def OpA (prog : Nat → Option AFun) (o : AOp) (T : Tmps) (s : St) (v : AV) (s' : St) : Prop := ∃ n, doOp (callF prog (run prog n)) (roundF (run prog n)) o T s = some (v, s')
section
variable {prog : Nat → Option AFun}
theorem callLe {n m : Nat} (h : n ≤ m) : LeC (callF prog (run prog n)) (callF prog (run prog m)) := callF_mono (run_le prog h)
theorem roundLe {n m : Nat} (h : n ≤ m) : LeC (roundF (run prog n)) (roundF (run prog m)) := roundF_mono (run_le prog h)
end

end Go.Qa
end

/- A run in parts, within calls too: between two parts, blocks that nobody needs any more are forgotten. -/
section
namespace Go.Qa
variable {P : Program} {C : Ctx} {F : Fence}

inductive Str where
  | code (c : ACode) (e : AExit)
  | ops (l : List AOper)

/-- which functions' bodies may be told in parts; which calls have a contract of their own -/
structure Env where
  ok : Nat → Prop
  ct : Nat → List AV → St → AV → St → Prop

inductive RunsG (prog : Nat → Option AFun) (ok : Env) : Str → Tmps → St → Tmps → St → Prop
  | run (n : Nat) (c : ACode) (e : AExit) (T T' : Tmps) (s s' : St) : run prog n c T s = some (e, T', s') → RunsG prog ok (.code c e) T s T' s'
  | seq (a b : ACode) (e : AExit) (T T1 T' : Tmps) (s s1 t s' : St) : RunsG prog ok (.code a .normal) T s T1 s1 → Less t s1 → RunsG prog ok (.code b e) T1 t T' s' → RunsG prog ok (.code (.seq a b) e) T s T' s'
  | seqX (a b : ACode) (e : AExit) (T T' : Tmps) (s s' : St) : e ≠ .normal → RunsG prog ok (.code a e) T s T' s' → RunsG prog ok (.code (.seq a b) e) T s T' s'
  | cond (x : AX) (a b : ACode) (e : AExit) (v : Bool) (T T' : Tmps) (s s' : St) : ev T x = .bool v → RunsG prog ok (.code (if v then a else b) e) T s T' s' → RunsG prog ok (.code (.cond x a b) e) T s T' s'
  | region (l : List AOper) (T T' : Tmps) (s s' : St) : RunsG prog ok (.ops l) T s T' s' → RunsG prog ok (.code (.region false l) .normal) T s T' s'
  | opsRun (n : Nat) (l : List AOper) (T T' : Tmps) (s s' : St) : runOps (callF prog (run prog n)) (roundF (run prog n)) l T s = some (T', s') → RunsG prog ok (.ops l) T s T' s'
  | opsApp (l1 l2 : List AOper) (T T1 T' : Tmps) (s s1 t s' : St) : RunsG prog ok (.ops l1) T s T1 s1 → Less t s1 → RunsG prog ok (.ops l2) T1 t T' s' → RunsG prog ok (.ops (l1 ++ l2)) T s T' s'
  | opsCall (o : AOper) (f : AX) (args : List AX) (g : Nat) (first captured : List AV) (af : AFun) (v : AV) (e : AExit) (T T2 : Tmps) (s s2 : St) :
      o.op = .call f args → guardOk o.guard T = true → ev T f = .func (.func g) first captured → prog g = some af → ok.ok g →
      RunsG prog ok (.code af.body e) (startT (first ++ evs T args ++ captured) 0 ⟨Nat.max af.ntmps (llen (first ++ evs T args ++ captured)), blank, .nil⟩) ⟨s.heap, s.next, s.next, [], s.hid⟩ T2 s2 → (e = .normal ∨ e = .ret) → resA s2 T2 af.res = some v →
      RunsG prog ok (.ops [o]) T s (T.putO o.dst v) ⟨s2.heap, s2.next, s.base, noteAll s s2.wr, s.hid⟩
  | opsCt (o : AOper) (f : AX) (args : List AX) (g : Nat) (first captured : List AV) (v : AV) (T : Tmps) (s s' : St) :
      o.op = .call f args → guardOk o.guard T = true → ev T f = .func (.func g) first captured → ok.ct g (first ++ evs T args ++ captured) s v s' → s.next ≤ s'.next → s'.base = s.base →
      RunsG prog ok (.ops [o]) T s (T.putO o.dst v) s'

theorem RunsG.step {prog : Nat → Option AFun} {ok : Env} {x : Str} {T T' : Tmps} {s s' : St} (h : RunsG prog ok x T s T' s') : s.base ≤ s.next → s.next ≤ s'.next ∧ s'.base = s.base := by
  induction h with
  | run n c e T T' s s' h => intro hb; have := run_step prog n _ _ _ _ _ _ hb h; exact ⟨this.next, this.base⟩
  | seq a b e T T1 T' s s1 t s' h1 hl h2 ih1 ih2 =>
    intro hb
    obtain ⟨a1, a2⟩ := ih1 hb
    obtain ⟨b1, b2⟩ := ih2 (by rw [hl.base, hl.next, a2]; omega)
    rw [hl.next] at b1
    rw [hl.base] at b2
    exact ⟨Nat.le_trans a1 b1, b2.trans a2⟩
  | seqX a b e T T' s s' he h ih => exact ih
  | opsCt o f args g first captured v T s s' ho hg hf hc h1 h2 => exact fun _ => ⟨h1, h2⟩
  | cond x a b e v T T' s s' hv h ih => exact ih
  | region l T T' s s' h ih => exact ih
  | opsRun n l T T' s s' h => intro hb; have := runOps_step (callF_step (run_step prog n)) (roundF_step (run_step prog n)) hb h; exact ⟨this.next, this.base⟩
  | opsApp l1 l2 T T1 T' s s1 t s' h1 hl h2 ih1 ih2 =>
    intro hb
    obtain ⟨a1, a2⟩ := ih1 hb
    obtain ⟨b1, b2⟩ := ih2 (by rw [hl.base, hl.next, a2]; omega)
    rw [hl.next] at b1
    rw [hl.base] at b2
    exact ⟨Nat.le_trans a1 b1, b2.trans a2⟩
  | opsCall o f args g first captured af v e T T2 s s2 ho hg hf hp hk h he hr ih =>
    intro hb
    exact ⟨(ih (Nat.le_refl _)).1, rfl⟩

theorem CodeAt.weak {rf : Bool} {T T' : Tmps} {s s' : St} {e : AExit} {g : Fence → Nat → (Exit → Act → World → Prop) → Act → World → Prop} (h : CodeAt C F rf T s e T' s' g) : CodeAt C F false T s e T' s' g :=
  fun F' hF' => h F' (hF'.imp (fun h => h) fun ⟨_, b⟩ => by cases b)
theorem go0_append {dsts : List (Option Nat)} : ∀ {l1 l2 : List AOper} {r : List Oper}, cOpers.go0 C dsts r = some (l1 ++ l2) → ∃ r1 r2, r = r1 ++ r2 ∧ cOpers.go0 C dsts r1 = some l1 ∧ cOpers.go0 C dsts r2 = some l2
  | [], l2, r, h => ⟨[], r, rfl, rfl, h⟩
  | a :: l1, l2, [], h => by simp [cOpers.go0] at h
  | a :: l1, l2, o :: r, h => by
    simp only [cOpers.go0] at h
    split at h <;> first | (cases h; done) | skip
    rename_i g l hg hl
    rw [List.cons_append] at h
    injection h with h
    obtain ⟨h1, h2⟩ := List.cons.inj h
    subst h2
    obtain ⟨r1, r2, e, e1, e2⟩ := go0_append hl
    exact ⟨o :: r1, r2, by rw [e]; rfl, by simp only [cOpers.go0, hg, e1]; rw [h1], e2⟩

theorem Done.forget {σ : Sig} {s s' t : St} {w w' : World} {a a' : Act} {T' : Tmps} (d : Done C σ s w a T' s' a' w') (hl : Less t s') : Done C σ s w a T' t a' w' := by
  obtain ⟨σ', p1, p2, p3⟩ := d
  exact ⟨σ', p1.forget hl, p2, p3⟩

/-- what the model does of such a stretch -/
def StrOk (C : Ctx) (P : Program) (F : Fence) (T : Tmps) (s : St) (T' : Tmps) (s' : St) : Str → Prop
  | .code c e => ∀ code : Code, cCode C code = c → CodeAt C F false T s e T' s' fun F' n Q a w => code.wpIn F' n P Q a w
  | .ops l => ∀ (n : Nat) (Q : Exit → Act → World → Prop) (ops : Array Oper) (rest : List Oper) (tl : List Nat) (more : List Oper) (i : Nat) (a : Act) (w : World) (σ : Sig), ops.toList.drop i = rest ++ more → cOpers.go0 C (ops.toList.map (·.dst)) rest = some l →
      s.base ≤ s.next → GOk C σ → TRel σ T a.tmps → HRel C σ s.get w → (∀ id, s.next ≤ id → id < s'.next → σ id = none) → (∀ a' w', Done C σ s w a T' s' a' w' → wpOpsIn F n P ops Q tl a' w') → wpOpsIn F n P ops Q (List.range' i rest.length ++ tl) a w

/-- the contracts are kept -/
def CtOk (C : Ctx) (P : Program) (F : Fence) (ok : Env) : Prop := ∀ g args s v s', ok.ct g args s v s' → ∀ (k : Nat) (σ : Sig) (w : World) (cargs : Array Value), s.base ≤ s.next → HRel C σ s.get w → GOk C σ → VRels σ args cargs.toList →
  (∀ id, s.next ≤ id → id < s'.next → σ id = none) → Comes F k P (Good C σ s w s' v) ((callFunc g cargs).run P w)

set_option maxHeartbeats 1000000 in
theorem runsG_ok {prog : Nat → Option AFun} {ok : Env} (K : CtxOk C P) (hF : FOk F) (hF0 : F.round = none) (hE : ∀ g af, ok.ok g → prog g = some af → Compiled C P g af) (hcode : ∀ n, CodeOk C P F (run prog n)) (hcall : ∀ n, CallOk C P F (callF prog (run prog n))) (hct : CtOk C P F ok)
    {x : Str} {T T' : Tmps} {s s' : St} (h : RunsG prog ok x T s T' s') : StrOk C P F T s T' s' x := by
  induction h with
  | run n c e T T' s s' h => intro code hc; subst hc; exact (hcode n code T s e T' s' h).weak
  | seq a b e T T1 T' s s1 t s' h1 hl h2 ih1 ih2 =>
    intro code hc
    cases code with
    | seq cx cy =>
      simp only [cCode] at hc
      injection hc with e1 e2
      intro F' hF' n Q B σ a w hb h G ht mk hB hn hQ
      obtain ⟨g1, g2⟩ := h1.step hb
      have hbt : t.base ≤ t.next := by rw [hl.base, hl.next, g2]; omega
      obtain ⟨g3, g4⟩ := h2.step hbt
      refine wpIn_seq ?_
      refine ih1 cx e1 F' hF' n _ B σ a w hb h G ht mk hB (fun id q1 q2 => hn id q1 (by rw [hl.next] at g3; omega)) ?_
      intro a1 w1 d
      have d := d.forget hl
      obtain ⟨σ1, p1, p2, p3⟩ := d
      exact ih2 cy e2 F' hF' n Q B σ1 a1 w1 hbt p1.rel (G.mono p1.ext.sub) p2 p3 (Nat.le_trans hB p1.size) (grow_none p1 g3 hn) fun a' w' d => hQ a' w' (d.trans p1 hn)
    | region i ops dr =>
      simp only [cCode] at hc
      split at hc <;> cases hc
    | cond c x y =>
      simp only [cCode] at hc
      split at hc <;> cases hc
    | rangeFunc f ps x y =>
      simp only [cCode] at hc
      split at hc <;> cases hc
    | _ => simp only [cCode] at hc; cases hc
  | seqX a b e T T' s s' hne h1 ih1 =>
    intro code hc
    cases code with
    | seq cx cy =>
      simp only [cCode] at hc
      injection hc with e1 e2
      intro F' hF' n Q B σ act w hb h G ht mk hB hn hQ
      refine wpIn_seq ?_
      refine ih1 cx e1 F' hF' n _ B σ act w hb h G ht mk hB hn ?_
      intro a1 w1 d
      have := hQ a1 w1 d
      cases e with
      | normal => exact absurd rfl hne
      | exit i => exact this
      | ret => exact this
    | region i ops dr =>
      simp only [cCode] at hc
      split at hc <;> cases hc
    | cond c x y =>
      simp only [cCode] at hc
      split at hc <;> cases hc
    | rangeFunc f ps x y =>
      simp only [cCode] at hc
      split at hc <;> cases hc
    | _ => simp only [cCode] at hc; cases hc
  | cond x a b e v T T' s s' hv h1 ih1 =>
    intro code hc
    cases code with
    | cond c cx cy =>
      simp only [cCode] at hc
      split at hc
      · rename_i c' hx
        injection hc with e0 e1 e2
        subst e0
        intro F' hF' n Q B σ act w hb h G ht mk hB hn hQ
        have hcr := cX_rel (a := act) G ht hx
        rw [hv] at hcr
        have hb' : act.eval c = .bool v := by generalize act.eval c = z at hcr; cases hcr; rfl
        cases v with
        | true => exact wpIn_cond_true hb' (ih1 cx e1 F' hF' n Q B σ act w hb h G ht mk hB hn hQ)
        | false => exact wpIn_cond_false hb' (ih1 cy e2 F' hF' n Q B σ act w hb h G ht mk hB hn hQ)
      · cases hc
    | region i ops dr =>
      simp only [cCode] at hc
      split at hc <;> cases hc
    | rangeFunc f ps x y =>
      simp only [cCode] at hc
      split at hc <;> cases hc
    | _ => simp only [cCode] at hc; cases hc
  | region l T T' s s' h1 ih1 =>
    intro code hc
    cases code with
    | region rid ops dr =>
      simp only [cCode] at hc
      split at hc
      · rename_i l' hl'
        injection hc with e0 e1
        subst e0; subst e1
        intro F' hF' n Q B σ act w hb h G ht mk hB hn hQ
        have hFF : F' = F := hF'.elim (fun h => h) fun ⟨_, b⟩ => by cases b
        subst hFF
        refine wpIn_region ?_
        have := ih1 n Q ops ops.toList [] [] 0 act w σ (by simp) hl' hb G ht h hn fun a' w' d => hQ a' w' (.of_done h hn mk d)
        rw [List.range_eq_range']
        simpa using this
      · cases hc
    | cond c x y =>
      simp only [cCode] at hc
      split at hc <;> cases hc
    | rangeFunc f ps x y =>
      simp only [cCode] at hc
      split at hc <;> cases hc
    | _ => simp only [cCode] at hc; cases hc
  | opsRun n l T T' s s' h1 =>
    intro k Q ops rest tl more i a w σ hd hl hb G ht h hn hQ
    exact opsIn_pre K hF (hcall n) (round_of hF (run_step prog n) (hcode n)) (callF_step (run_step prog n)) (roundF_step (run_step prog n)) rest tl more i l T a s w σ T' s' hd hl h1 hb G ht h hn hQ
  | opsApp l1 l2 T T1 T' s s1 t s' h1 hl h2 ih1 ih2 =>
    intro k Q ops rest tl more i a w σ hd hl0 hb G ht h hn hQ
    obtain ⟨r1, r2, rfl, e1, e2⟩ := go0_append hl0
    obtain ⟨g1, g2⟩ := h1.step hb
    have hbt : t.base ≤ t.next := by rw [hl.base, hl.next, g2]; omega
    obtain ⟨g3, g4⟩ := h2.step hbt
    have hrange : List.range' i (r1 ++ r2).length ++ tl = List.range' i r1.length ++ (List.range' (i + r1.length) r2.length ++ tl) := by
      rw [List.length_append, ← List.append_assoc, List.range'_append_1]
    rw [hrange]
    refine ih1 k Q ops r1 _ (r2 ++ more) i a w σ (by rw [hd, List.append_assoc]) e1 hb G ht h (fun id q1 q2 => hn id q1 (by rw [hl.next] at g3; omega)) ?_
    intro a1 w1 d
    obtain ⟨σ1, p1, p2, p3⟩ := d.forget hl
    refine ih2 k Q ops r2 tl more (i + r1.length) a1 w1 σ1 ?_ e2 hbt (G.mono p1.ext.sub) p2 p1.rel (grow_none p1 g3 hn) ?_
    · rw [← List.drop_drop, hd, List.append_assoc, List.drop_left]
    · rintro a' w' ⟨σ', q1, q2, q3⟩
      exact hQ a' w' ⟨σ', p1.trans q1 hn, q2, by rw [q3, p3]⟩
  | opsCall o f args g first captured af v e T T2 s s2 ho hg hf hp hk h1 he hres ih =>
    intro k Q ops rest tl more i a w σ hd hl hb G ht h hn hQ
    cases rest with
    | nil => simp [cOpers.go0] at hl
    | cons oo r =>
      simp only [cOpers.go0] at hl
      split at hl <;> first | (cases hl; done) | skip
      rename_i gd l' hgd hl'
      injection hl with hl
      obtain ⟨rfl, rfl⟩ := List.cons.inj hl
      have hr0 : r = [] := by
        cases r with
        | nil => rfl
        | cons x y =>
          simp only [cOpers.go0] at hl'
          split at hl' <;> cases hl'
      subst hr0
      have hi : ops[i]? = some oo := by
        have := congrArg (·[0]?) hd
        simp only [List.getElem?_drop, List.cons_append, List.getElem?_cons_zero] at this
        simpa using this
      have hco : cOp C oo.op = some (.call f args) := by
        simp only at ho
        unfold cOpB at ho
        split at ho
        · rename_i hx; rw [hx, ho]
        · cases ho
      simp only [List.length_cons, List.length_nil, Nat.zero_add, List.range'_one, List.cons_append, List.nil_append, wpOpsIn, hi]
      rw [guard_ok (o := oo) hgd ht rfl]
      simp only at hg
      rw [hg]
      simp only [if_true]
      refine ⟨fun f _ => hF.fn f, ?_⟩
      rw [semAt_ok hco]
      have hop : opA (.call f args) T s = some (.enter g (first ++ evs T args ++ captured), s) := by
        show op_call f args T s = _
        unfold op_call
        rw [hf]
      have hx := exec_ok (P := P) (w := w) K G ht h oo hco (fun id h1 h2 => absurd h2 (by omega)) hop
      generalize (execOp a.eval oo).run P w = rr at hx ⊢
      have hc := hE g af hk hp
      cases hx with
      | enter _ _ cargs hv hrr =>
        refine comes_upon (F := F) (R := Good C σ s w ⟨s2.heap, s2.next, s.base, noteAll s s2.wr, s.hid⟩ v) hF (r := rr) ?_ ?_
        · rw [hrr, hc.enter]
          obtain ⟨fn, b, b1, b2, b3, b4⟩ := hc.ex
          unfold cFun at b4
          rw [b3] at b4
          split at b4 <;> first | (cases b4; done) | skip
          rename_i b' r hb' hr
          injection hb' with hb'; subst hb'
          injection b4 with b4; subst b4
          show CallsIn F (k - 1) P g cargs w _
          refine callsIn_of_wp_marks b1 b3 (hF.fn g) ?_ hF0
          refine ih b rfl F (.inl rfl) (k - 1) _ w.heap.size σ _ w (Nat.le_refl _) h G (start_rel hv fn.ntmps) (Marks.nil _ _ _ _) (Nat.le_refl _) hn ?_
          rintro a' w' ⟨σ', p1, p2, p3⟩
          have : bodyPostM F (k - 1) P fn (fun e w'' => ∃ c, e = .returned c ∧ Good C σ s w ⟨s2.heap, s2.next, s.base, noteAll s s2.wr, s.hid⟩ v c w'') (exitOf e) a' w' = LeavesInM F (k - 1) P fn a'.tmps (fun e w'' => ∃ c, e = .returned c ∧ Good C σ s w ⟨s2.heap, s2.next, s.base, noteAll s s2.wr, s.hid⟩ v c w'') a'.defers .returning w' := by
            rcases he with rfl | rfl <;> rfl
          rw [this]
          obtain ⟨rs, e1, e2, e3⟩ := p3.ex
          rw [e1]
          refine leavesM rs w' e2 e3 p1 fun w'' q => ?_
          obtain ⟨c, c1, c2⟩ := results_ok (P := P) K q.rel p2 hr hres
          exact ⟨c, c1, c, rfl, σ', q.sub, c2⟩
        · rintro c w1 ⟨σ1, p1, p2⟩
          refine hQ _ _ ⟨σ1, p1, (ht.mono p1.ext.sub).put p2 _, put_defers _ _ _⟩

  | opsCt o f args g first captured v T s s' ho hg hf hct0 hnx hbs =>
    intro k Q ops rest tl more i a w σ hd hl hb G ht h hn hQ
    cases rest with
    | nil => simp [cOpers.go0] at hl
    | cons oo r =>
      simp only [cOpers.go0] at hl
      split at hl <;> first | (cases hl; done) | skip
      rename_i gd l' hgd hl'
      injection hl with hl
      obtain ⟨rfl, rfl⟩ := List.cons.inj hl
      have hr0 : r = [] := by
        cases r with
        | nil => rfl
        | cons x y =>
          simp only [cOpers.go0] at hl'
          split at hl' <;> cases hl'
      subst hr0
      have hi : ops[i]? = some oo := by
        have := congrArg (·[0]?) hd
        simp only [List.getElem?_drop, List.cons_append, List.getElem?_cons_zero] at this
        simpa using this
      have hco : cOp C oo.op = some (.call f args) := by
        simp only at ho
        unfold cOpB at ho
        split at ho
        · rename_i hx; rw [hx, ho]
        · cases ho
      simp only [List.length_cons, List.length_nil, Nat.zero_add, List.range'_one, List.cons_append, List.nil_append, wpOpsIn, hi]
      rw [guard_ok (o := oo) hgd ht rfl]
      simp only at hg
      rw [hg]
      simp only [if_true]
      refine ⟨fun f _ => hF.fn f, ?_⟩
      rw [semAt_ok hco]
      have hop : opA (.call f args) T s = some (.enter g (first ++ evs T args ++ captured), s) := by
        show op_call f args T s = _
        unfold op_call
        rw [hf]
      have hx := exec_ok (P := P) (w := w) K G ht h oo hco (fun id h1 h2 => absurd h2 (by omega)) hop
      generalize (execOp a.eval oo).run P w = rr at hx ⊢
      cases hx with
      | enter _ _ cargs hv hrr =>
        refine comes_upon (F := F) (R := Good C σ s w s' v) hF (r := rr) ?_ ?_
        · rw [hrr]; exact hct g _ s v s' hct0 (k - 1) σ w cargs hb h G hv hn
        · rintro c w1 ⟨σ1, p1, p2⟩
          refine hQ _ _ ⟨σ1, p1, (ht.mono p1.ext.sub).put p2 _, put_defers _ _ _⟩

/-- a function's contract, out of a run of its body in parts -/
theorem call_of_parts {prog : Nat → Option AFun} {ok : Env} (K : CtxOk C P) (hF : FOk F) (hF0 : F.round = none) (hE : ∀ g af, ok.ok g → prog g = some af → Compiled C P g af) (hcode : ∀ n, CodeOk C P F (run prog n)) (hcall : ∀ n, CallOk C P F (callF prog (run prog n))) (hct : CtOk C P F ok)
    {f : Nat} {af : AFun} (hc : Compiled C P f af) {args : List AV} {s s1 : St} {v : AV} {T : Tmps} {e : AExit}
    (he : e = .normal ∨ e = .ret) (hrun : RunsG prog ok (.code af.body e) (startT args 0 ⟨Nat.max af.ntmps (llen args), blank, .nil⟩) ⟨s.heap, s.next, s.next, [], s.hid⟩ T s1) (hres : resA s1 T af.res = some v)
    (k : Nat) (σ : Sig) (w : World) (cargs : Array Value) (hH : HRel C σ s.get w) (G : GOk C σ) (hv : VRels σ args cargs.toList) (hn : ∀ id, s.next ≤ id → id < s1.next → σ id = none) :
    CallsIn F k P f cargs w fun e w'' => ∃ c, e = .returned c ∧ Good C σ s w ⟨s1.heap, s1.next, s.base, noteAll s s1.wr, s.hid⟩ v c w'' := by
  obtain ⟨fn, b, h1, h2, h3, h4⟩ := hc.ex
  unfold cFun at h4
  rw [h3] at h4
  split at h4 <;> first | (cases h4; done) | skip
  rename_i b' r hb' hr
  injection hb' with hb'; subst hb'
  injection h4 with h4; subst h4
  refine callsIn_of_wp_marks h1 h3 (hF.fn f) ?_ hF0
  refine runsG_ok K hF hF0 hE hcode hcall hct hrun b rfl F (.inl rfl) k _ w.heap.size σ _ w (Nat.le_refl _) hH G (start_rel hv fn.ntmps) (Marks.nil _ _ _ _) (Nat.le_refl _) hn ?_
  rintro a' w' ⟨σ', p1, p2, p3⟩
  have : bodyPostM F k P fn (fun e w'' => ∃ c, e = .returned c ∧ Good C σ s w ⟨s1.heap, s1.next, s.base, noteAll s s1.wr, s.hid⟩ v c w'') (exitOf e) a' w' = LeavesInM F k P fn a'.tmps (fun e w'' => ∃ c, e = .returned c ∧ Good C σ s w ⟨s1.heap, s1.next, s.base, noteAll s s1.wr, s.hid⟩ v c w'') a'.defers .returning w' := by
    rcases he with rfl | rfl <;> rfl
  rw [this]
  obtain ⟨rs, e1, e2, e3⟩ := p3.ex
  rw [e1]
  refine leavesM rs w' e2 e3 p1 fun w'' q => ?_
  obtain ⟨c, c1, c2⟩ := results_ok (P := P) K q.rel p2 hr hres
  exact ⟨c, c1, c, rfl, σ', q.sub, c2⟩

end Go.Qa
end

/- The one function that ranges over a map: of one entry at the most. Its contract. -/
section
namespace Go.Qa
variable {P : Program} {C : Ctx} {F : Fence}

/-! ### Stretches of code, sound at every fuel up to one -/
def SoundC (C : Ctx) (P : Program) (F : Fence) (prog : Nat → Option AFun) (n : Nat) (a : ACode) (c : Code) : Prop :=
  ∀ m, m ≤ n → ∀ T s e T' s', run prog m a T s = some (e, T', s') → CodeAt C F false T s e T' s' fun F' k Q a w => c.wpIn F' k P Q a w
theorem SoundC.of {prog : Nat → Option AFun} {n : Nat} (h : CodeOk C P F (run prog n)) (c : Code) : SoundC C P F prog n (cCode C c) c :=
  fun m hm T s e T' s' hr => (h c T s e T' s' (run_le prog hm _ _ _ _ hr)).weak

theorem seq_inv {prog : Nat → Option AFun} {m : Nat} {x y : ACode} {T T' : Tmps} {s s' : St} {e : AExit} (h : run prog m (.seq x y) T s = some (e, T', s')) :
    ∃ k, m = k + 1 ∧ ((∃ T1 s1, run prog k x T s = some (.normal, T1, s1) ∧ run prog k y T1 s1 = some (e, T', s')) ∨ (e ≠ .normal ∧ run prog k x T s = some (e, T', s'))) := by
  cases m with
  | zero => cases h
  | succ k =>
    refine ⟨k, rfl, ?_⟩
    have h : step prog (run prog k) (.seq x y) T s = some (e, T', s') := h
    simp only [step] at h
    split at h <;> first | (cases h; done) | skip
    · rename_i T1 s1 h1; exact .inl ⟨T1, s1, h1, h⟩
    · rename_i e1 T1 s1 hne h1
      obtain ⟨rfl, rfl, rfl⟩ := trip_inj h
      exact .inr ⟨fun x => hne x, h1⟩
theorem region_inv {prog : Nat → Option AFun} {m : Nat} {l : List AOper} {T T' : Tmps} {s s' : St} {e : AExit} (h : run prog m (.region false l) T s = some (e, T', s')) :
    ∃ k, m = k + 1 ∧ e = .normal ∧ runOps (callF prog (run prog k)) (roundF (run prog k)) l T s = some (T', s') := by
  cases m with
  | zero => cases h
  | succ k =>
    refine ⟨k, rfl, ?_⟩
    have h : step prog (run prog k) (.region false l) T s = some (e, T', s') := h
    simp only [step] at h
    split at h <;> first | (cases h; done) | skip
    rename_i h1
    obtain ⟨rfl, rfl, rfl⟩ := trip_inj h
    exact ⟨rfl, h1⟩
theorem regionD_inv {prog : Nat → Option AFun} {m : Nat} {l : List AOper} {T T' : Tmps} {s s' : St} {e : AExit} (h : run prog m (.region true l) T s = some (e, T', s')) :
    ∃ k, m = k + 1 ∧ e = .normal ∧ runOpsD (callF prog (run prog k)) (roundF (run prog k)) l 0 [] T s = some (T', s') := by
  cases m with
  | zero => cases h
  | succ k =>
    refine ⟨k, rfl, ?_⟩
    have h : step prog (run prog k) (.region true l) T s = some (e, T', s') := h
    simp only [step] at h
    split at h <;> first | (cases h; done) | skip
    rename_i h1
    obtain ⟨rfl, rfl, rfl⟩ := trip_inj h
    exact ⟨rfl, h1⟩
theorem block_inv {prog : Nat → Option AFun} {m i : Nat} {c : ACode} {T T' : Tmps} {s s' : St} {e : AExit} (h : run prog m (.block i c) T s = some (e, T', s')) :
    ∃ k, m = k + 1 ∧ ((e = .normal ∧ run prog k c T s = some (.exit i, T', s')) ∨ (e ≠ .exit i ∧ run prog k c T s = some (e, T', s'))) := by
  cases m with
  | zero => cases h
  | succ k =>
    refine ⟨k, rfl, ?_⟩
    have h : step prog (run prog k) (.block i c) T s = some (e, T', s') := h
    simp only [step] at h
    cases hx : run prog k c T s with
    | none => rw [hx] at h; cases h
    | some z =>
      obtain ⟨e1, T1, s1⟩ := z
      rw [hx] at h
      cases e1 with
      | normal => obtain ⟨rfl, rfl, rfl⟩ := trip_inj h; exact .inr ⟨by simp, rfl⟩
      | ret => obtain ⟨rfl, rfl, rfl⟩ := trip_inj h; exact .inr ⟨by simp, rfl⟩
      | exit j =>
        cases hj : Nat.beq j i with
        | true =>
          simp only [hj] at h
          obtain ⟨rfl, rfl, rfl⟩ := trip_inj h
          rw [beq_iff] at hj
          have hj := of_decide_eq_true hj
          subst hj
          exact .inl ⟨rfl, rfl⟩
        | false =>
          simp only [hj] at h
          obtain ⟨rfl, rfl, rfl⟩ := trip_inj h
          rw [beq_iff] at hj
          have hj := of_decide_eq_false hj
          exact .inr ⟨fun x => by injection x with x; exact hj x, rfl⟩
theorem mapIt_inv {prog : Nat → Option AFun} {m : Nat} {t : Bool} {T T' : Tmps} {s s' : St} {e : AExit} (h : run prog m (.mapIt t) T s = some (e, T', s')) :
    ∃ b l, mapIt t T.n (T.get 12) s = some (b, l, s') ∧ T' = putL T l ∧ e = (if b then .exit 0 else .normal) := by
  cases m with
  | zero => cases h
  | succ k =>
    have h : step prog (run prog k) (.mapIt t) T s = some (e, T', s') := h
    simp only [step] at h
    split at h <;> first | (cases h; done) | skip
    · rename_i l s1 h1
      obtain ⟨rfl, rfl, rfl⟩ := trip_inj h
      exact ⟨true, l, h1, rfl, rfl⟩
    · rename_i l s1 h1
      obtain ⟨rfl, rfl, rfl⟩ := trip_inj h
      exact ⟨false, l, h1, rfl, rfl⟩
theorem cond_inv {prog : Nat → Option AFun} {m : Nat} {x : AX} {a b : ACode} {T T' : Tmps} {s s' : St} {e : AExit} (h : run prog m (.cond x a b) T s = some (e, T', s')) :
    ∃ k, m = k + 1 ∧ ((ev T x = .bool true ∧ run prog k a T s = some (e, T', s')) ∨ (ev T x = .bool false ∧ run prog k b T s = some (e, T', s'))) := by
  cases m with
  | zero => cases h
  | succ k =>
    refine ⟨k, rfl, ?_⟩
    have h : step prog (run prog k) (.cond x a b) T s = some (e, T', s') := h
    simp only [step] at h
    split at h <;> first | (cases h; done) | skip
    · rename_i hv; exact .inl ⟨hv, h⟩
    · rename_i hv; exact .inr ⟨hv, h⟩

theorem SoundC.seq {prog : Nat → Option AFun} {n : Nat} {x y : ACode} {cx cy : Code} (hx : SoundC C P F prog n x cx) (hy : SoundC C P F prog n y cy) : SoundC C P F prog n (.seq x y) (.seq cx cy) := by
  intro m hm T s e T' s' hr F' hF' k Q B σ a w hb h G ht mk hB hn hQ
  obtain ⟨j, rfl, ⟨T1, s1, h1, h2⟩ | ⟨hne, h1⟩⟩ := seq_inv hr
  · have st1 := run_step prog j _ _ _ _ _ _ hb h1
    have st2 := run_step prog j _ _ _ _ _ _ (st1.le hb) h2
    refine wpIn_seq ?_
    refine hx j (by omega) _ _ _ _ _ h1 F' hF' k _ B σ a w hb h G ht mk hB (hn_le st2.next hn) ?_
    rintro a1 w1 ⟨σ1, p1, p2, p3⟩
    exact hy j (by omega) _ _ _ _ _ h2 F' hF' k Q B σ1 a1 w1 (st1.le hb) p1.rel (G.mono p1.ext.sub) p2 p3 (Nat.le_trans hB p1.size) (grow_none p1 st2.next hn) fun a' w' d => hQ a' w' (d.trans p1 hn)
  · refine wpIn_seq ?_
    refine hx j (by omega) _ _ _ _ _ h1 F' hF' k _ B σ a w hb h G ht mk hB hn ?_
    intro a' w' d
    have := hQ a' w' d
    cases e with
    | normal => exact absurd rfl hne
    | exit i => exact this
    | ret => exact this
theorem SoundC.cond {prog : Nat → Option AFun} {n : Nat} {c : Operand} {c' : AX} {x y : ACode} {cx cy : Code} (hc : cX C c = some c') (hx : SoundC C P F prog n x cx) (hy : SoundC C P F prog n y cy) : SoundC C P F prog n (.cond c' x y) (.cond c cx cy) := by
  intro m hm T s e T' s' hr F' hF' k Q B σ a w hb h G ht mk hB hn hQ
  have hcr := cX_rel (a := a) G ht hc
  obtain ⟨j, rfl, ⟨hv, h1⟩ | ⟨hv, h1⟩⟩ := cond_inv hr
  · rw [hv] at hcr
    have : a.eval c = .bool true := by generalize a.eval c = z at hcr; cases hcr; rfl
    exact wpIn_cond_true this (hx j (by omega) _ _ _ _ _ h1 F' hF' k Q B σ a w hb h G ht mk hB hn hQ)
  · rw [hv] at hcr
    have : a.eval c = .bool false := by generalize a.eval c = z at hcr; cases hcr; rfl
    exact wpIn_cond_false this (hy j (by omega) _ _ _ _ _ h1 F' hF' k Q B σ a w hb h G ht mk hB hn hQ)

/-! ### What a drawn region leaves alone -/
theorem putO_get {T : Tmps} {d : Option Nat} {v : AV} {i : Nat} (h : d ≠ some i) : (T.putO d v).get i = T.get i := by
  cases d with
  | none => rfl
  | some d =>
    show (T.put d v).get i = _
    rw [Tmps.get_put, if_neg]
    rintro ⟨rfl, _⟩; exact h rfl
theorem putO_n {T : Tmps} {d : Option Nat} {v : AV} : (T.putO d v).n = T.n := by
  cases d with
  | none => rfl
  | some d => exact Tmps.n_put ..
theorem runOpsD_keeps {call round : Call} {i : Nat} : ∀ {l : List AOper} {n : Nat} {sofar : List Touch} {T T' : Tmps} {s s' : St}, (∀ o ∈ l, o.dst ≠ some i) → runOpsD call round l n sofar T s = some (T', s') → T'.get i = T.get i ∧ T'.n = T.n
  | [], n, sofar, T, T', s, s', hd, h => by simp [runOpsD] at h; rw [h.1]; exact ⟨rfl, rfl⟩
  | o :: l, n, sofar, T, T', s, s', hd, h => by
    have h0 := hd o List.mem_cons_self
    have hl : ∀ o ∈ l, o.dst ≠ some i := fun o ho => hd o (List.mem_cons_of_mem _ ho)
    simp only [runOpsD] at h
    split at h
    · obtain ⟨e1, e2⟩ := runOpsD_keeps hl h
      exact ⟨by rw [e1, putO_get h0], by rw [e2, putO_n]⟩
    · split at h <;> first | (cases h; done) | skip
      split at h <;> first | (cases h; done) | skip
      split at h <;> first | (cases h; done) | skip
      obtain ⟨e1, e2⟩ := runOpsD_keeps hl h
      exact ⟨by rw [e1, putO_get h0], by rw [e2, putO_n]⟩

/-! ### A block that is told of, but dead -/
theorem alloc_old {w : World} {o : Obj} {b : Nat} (hb : b < w.heap.size) : (w.alloc o).heap[b]? = w.heap[b]? := by
  show (w.heap.push o)[b]? = _
  rw [Array.getElem?_push_lt hb, Array.getElem?_eq_getElem hb]
theorem post_dead {σ : Sig} {s : St} {w : World} (h : HRel C σ s.get w) (hn : σ s.next = none) (x : Obj) : Post C σ s w (σ.ins s.next ⟨w.heap.size, 0, 0⟩) ((s.new (.map [])).kill s.next) (w.alloc x) := by
  have hsub := Sig.ins_sub (σ := σ) ⟨w.heap.size, 0, 0⟩ hn
  have key : ∀ k y, ((s.new (.map [])).kill s.next).get k = some y → k ≠ s.next ∧ s.get k = some y := fun k y hy => by
    rw [St.get_kill] at hy
    by_cases e : k = s.next
    · rw [if_pos e] at hy; cases hy
    · rw [if_neg e] at hy
      rcases St.get_new s _ k y hy with ⟨e', _⟩ | ⟨_, ey⟩
      · exact absurd e' e
      · exact ⟨e, ey⟩
  have key2 : ∀ k, ((s.new (.map [])).kill s.next).get k ≠ none → k ≠ s.next ∧ s.get k ≠ none := fun k hk => by
    cases hy : ((s.new (.map [])).kill s.next).get k with
    | none => exact absurd hy hk
    | some y => obtain ⟨a, b⟩ := key k y hy; exact ⟨a, by rw [b]; simp⟩
  have old : ∀ k q, s.get k ≠ none → σ.ins s.next ⟨w.heap.size, 0, 0⟩ k = some q → σ k = some q := fun k q hk hq => by
    obtain ⟨q', hq', _⟩ := h.sig hk
    have := hsub _ _ hq'
    rw [hq] at this; injection this with this; subst this; exact hq'
  exact {
    ext := ⟨hsub, fun j q hq h0 => by
      unfold Sig.ins at hq
      by_cases e : j = s.next
      · subst e; exact ⟨Nat.le_refl _, Nat.lt_succ_self _⟩
      · rw [if_neg e, h0] at hq; cases hq⟩
    rel := {
      obj := fun j y hy => by
        obtain ⟨_, ey⟩ := key j y hy
        obtain ⟨q, hq, hr⟩ := h.obj j y ey
        refine ⟨q, hsub _ _ hq, ?_⟩
        rw [alloc_old hr.lt]
        exact hr.mono hsub
      apart := fun i j pi pj hi hj hne hpi hpj => h.apart i j pi pj (key2 i hi).2 (key2 j hj).2 hne (old i pi (key2 i hi).2 hpi) (old j pj (key2 j hj).2 hpj) }
    size := by simp
    frame := fun b hb _ => alloc_old hb
    fresh := fun id p hp h0 => by
      unfold Sig.ins at hp
      by_cases e : id = s.next
      · rw [if_pos e] at hp; injection hp with hp; subst hp; exact ⟨by simp, .inl (Nat.le_refl _)⟩
      · rw [if_neg e, h0] at hp; cases hp
    next := Nat.le_succ _
    base := rfl
    hid := rfl
    wr := fun x hx => (s.new (.map [])).note_sub s.next x hx
    os := rfl
    tape := rfl
    output := rfl
    kept := fun j hj => .inl (key2 j hj).2 }
/-- a world with the same heap -/
theorem Post.like {σ σ' : Sig} {s s' : St} {w w1 w2 : World} (h : Post C σ s w σ' s' w1) (e1 : w2.heap = w1.heap) (e2 : w2.os = w1.os) (e3 : w2.tape = w1.tape) (e4 : w2.output = w1.output) : Post C σ s w σ' s' w2 where
  ext := h.ext
  rel := ⟨fun id o ho => by rw [e1]; exact h.rel.obj id o ho, h.rel.apart⟩
  size := by rw [e1]; exact h.size
  frame := fun b hb H => by rw [e1]; exact h.frame b hb H
  fresh := fun id p hp h0 => by rw [e1]; exact h.fresh id p hp h0
  next := h.next
  base := h.base
  hid := h.hid
  wr := h.wr
  os := by rw [e2]; exact h.os
  tape := by rw [e3]; exact h.tape
  output := by rw [e4]; exact h.output
  kept := h.kept

end Go.Qa
end

/- The range over a map of one entry at the most: the walk. -/
section
namespace Go.Qa
variable {P : Program} {C : Ctx} {F : Fence}

/-! ### Operations without calls -/
theorem opA_called {b : AOp} {T : Tmps} {s s' : St} {nx : ANext} (ho : opA b T s = some (nx, s')) (hb : ∀ f l, b ≠ .call f l) : ∃ v, nx = .val v := by
  cases nx with
  | val v => exact ⟨v, rfl⟩
  | enter f args =>
    exfalso
    cases b
    case call g l => exact hb g l rfl
    all_goals simp only [opA, op_mv, op_pick, op_new, op_box, op_build, op_buildS, op_load, op_store, op_nilck, op_bin, op_eq, op_un, op_conv, op_s2ap, op_mkfn, op_mkmap, op_mksl, op_slStr, op_slSl, op_slArr, op_faddr, op_field, op_iaddrA, op_iaddrS, op_indexA, op_indexS, op_lookup, op_mapup, op_extract, op_append, op_appendZ, op_copy, op_lenS, op_lenStr, op_lenA, op_lenM, op_capS, op_clearM, op_clearS, op_delete, op_min2, op_max2, op_sdata, op_ustr, val, val?] at ho
    all_goals (repeat' split at ho)
    all_goals first | (cases ho; done) | (simp at ho; done)
  | round f args =>
    exfalso
    cases b
    case call g l => exact hb g l rfl
    all_goals simp only [opA, op_mv, op_pick, op_new, op_box, op_build, op_buildS, op_load, op_store, op_nilck, op_bin, op_eq, op_un, op_conv, op_s2ap, op_mkfn, op_mkmap, op_mksl, op_slStr, op_slSl, op_slArr, op_faddr, op_field, op_iaddrA, op_iaddrS, op_indexA, op_indexS, op_lookup, op_mapup, op_extract, op_append, op_appendZ, op_copy, op_lenS, op_lenStr, op_lenA, op_lenM, op_capS, op_clearM, op_clearS, op_delete, op_min2, op_max2, op_sdata, op_ustr, val, val?] at ho
    all_goals (repeat' split at ho)
    all_goals first | (cases ho; done) | (simp at ho; done)
theorem doOp_pure {c r c' r' : Call} {o : AOp} {T : Tmps} {s : St} (hb : ∀ f l, o ≠ .call f l) : doOp c r o T s = doOp c' r' o T s := by
  unfold doOp
  cases hx : opA o T s with
  | none => rfl
  | some x =>
    obtain ⟨nx, s'⟩ := x
    obtain ⟨v, rfl⟩ := opA_called hx hb
    rfl
theorem runOps_pure {c r c' r' : Call} : ∀ {l : List AOper} {T : Tmps} {s : St}, (∀ o ∈ l, ∀ f a, o.op ≠ .call f a) → runOps c r l T s = runOps c' r' l T s
  | [], T, s, _ => rfl
  | o :: l, T, s, h => by
    have ih : ∀ T s, runOps c r l T s = runOps c' r' l T s := fun T s => runOps_pure fun o ho => h o (List.mem_cons_of_mem _ ho)
    simp only [runOps]
    rw [doOp_pure (c' := c') (r' := r') (h o List.mem_cons_self)]
    simp only [ih]
def call0 : Call := fun _ _ _ => none
theorem call0_ok : CallOk C P F call0 := fun _ _ _ _ _ h => by cases h
theorem round0_ok : RoundOk C P F call0 := fun _ _ _ _ _ h => by cases h
theorem call0_step : CallStep call0 := fun _ _ _ _ _ _ h => by cases h

/-! ### Heads and tails -/
theorem mapHead_inv {b : Bool} {n : Nat} {m : AV} {l : List (Nat × AV)} {s s' : St} (h : mapIt false n m s = some (b, l, s')) :
    ∃ id, m = .map id ∧ id < s.base ∧ 27 ≤ n ∧ s' = (s.new (.map [])).kill s.next ∧
      ((s.get id = some (.map []) ∧ b = true ∧ l = [(13, .ptr s.next 0), (14, .tup [.bool false]), (15, .bool false)]) ∨
       ∃ k v, s.get id = some (.map [(k, v)]) ∧ b = false ∧ l = [(13, .ptr s.next 0), (14, .tup [.bool true, k, v]), (15, .bool true), (16, .tup [k, v]), (17, k), (18, v), (4, k), (5, v)]) := by
  unfold mapIt at h
  split at h <;> first | (cases h; done) | skip
  rename_i id
  split at h <;> first | (cases h; done) | skip
  rename_i hlt
  rw [Bool.and_eq_true, blt_iff, decide_eq_true_eq] at hlt
  have h27 := Nat.le_of_ble_eq_true hlt.2
  simp only at h
  split at h <;> first | (cases h; done) | skip
  · rename_i hg
    obtain ⟨rfl, rfl, rfl⟩ := trip_inj h
    exact ⟨id, rfl, hlt.1, h27, rfl, .inl ⟨hg, rfl, rfl⟩⟩
  · rename_i k v _ hg
    obtain ⟨rfl, rfl, rfl⟩ := trip_inj h
    exact ⟨id, rfl, hlt.1, h27, rfl, .inr ⟨k, v, hg, rfl, rfl⟩⟩
theorem mapTail_inv {b : Bool} {n : Nat} {m : AV} {l : List (Nat × AV)} {s s' : St} (h : mapIt true n m s = some (b, l, s')) :
    ∃ id, m = .map id ∧ id < s.base ∧ id ∉ s.wr ∧ s' = s ∧ b = true ∧ l = [(14, .tup [.bool false]), (15, .bool false)] := by
  unfold mapIt at h
  split at h <;> first | (cases h; done) | skip
  rename_i id
  split at h <;> first | (cases h; done) | skip
  rename_i hlt
  rw [Bool.and_eq_true, blt_iff, decide_eq_true_eq] at hlt
  simp only at h
  split at h <;> first | (cases h; done) | skip
  rename_i hm
  obtain ⟨rfl, rfl, rfl⟩ := trip_inj h
  refine ⟨id, rfl, hlt.1, fun hx => ?_, rfl, rfl, rfl⟩
  rw [(memN_iff _ _).2 hx] at hm; cases hm

/-! ### Temporaries, there -/
theorem getD_put_same {a : Act} {i : Nat} {v : Value} (h : i < a.tmps.size) : (a.put (some i) v).tmps.getD i Go.undef = v := by
  show (a.tmps.setIfInBounds i v).getD i Go.undef = v
  simp [Array.getD, h]
theorem getD_put_ne {a : Act} {i j : Nat} {v : Value} (h : i ≠ j) : (a.put (some i) v).tmps.getD j Go.undef = a.tmps.getD j Go.undef := by
  show (a.tmps.setIfInBounds i v).getD j Go.undef = _
  rw [Array.getD_eq_getD_getElem?, Array.getD_eq_getD_getElem?, Array.getElem?_setIfInBounds, if_neg h]
theorem size_put {a : Act} {i : Nat} {v : Value} : (a.put (some i) v).tmps.size = a.tmps.size := by
  show (a.tmps.setIfInBounds i v).size = _
  simp

structure IsOp (o : Oper) (d : Nat) (op : Op) : Prop where
  dst : o.dst = some d
  op : o.op = op
  guard : o.guard = none
theorem IsOp.hand (hF : FOk F) {n : Nat} {ops : Array Oper} {Q : Exit → Act → World → Prop} {i d : Nat} {rest : List Nat} {o : Oper} {op : Op} {a : Act} {w w' : World} {c : Value} (h : IsOp o d op) (hd : ∀ c, op ≠ .defer c) (ho : ops[i]? = some o)
    (he : (execOp a.eval o).run P w = .ok (.value c) w') (hn : wpOpsIn F n P ops Q rest (a.put (some d) c) w') : wpOpsIn F n P ops Q (i :: rest) a w :=
  opsIn_hand hF ho h.guard (by rw [h.op]; exact hd) he (by rw [h.dst]; exact hn)
theorem IsOp.next {o : Oper} {d x : Nat} (h : IsOp o d (.next (.tmp x) false)) {a : Act} {w w' : World} {c v : Value} (hx : a.tmps.getD x Go.undef = v) (hr : (Instr.next v false o.type).run P w = .ok c w') : (execOp a.eval o).run P w = .ok (.value c) w' := by
  have : a.eval (.tmp x) = v := hx
  simp [execOp, h.op, this, hr]
theorem IsOp.entry {o : Oper} {d x : Nat} (h : IsOp o d (.entry (.tmp x))) {a : Act} {w w' : World} {c v : Value} (hx : a.tmps.getD x Go.undef = v) (hr : (Instr.entry v).run P w = .ok c w') : (execOp a.eval o).run P w = .ok (.value c) w' := by
  have : a.eval (.tmp x) = v := hx
  simp [execOp, h.op, this, hr]
theorem IsOp.range {o : Oper} {d x t : Nat} (h : IsOp o d (.range t (.tmp x))) {a : Act} {w w' : World} {c v : Value} (hx : a.tmps.getD x Go.undef = v) (hr : (Instr.range t v).run P w = .ok c w') : (execOp a.eval o).run P w = .ok (.value c) w' := by
  have : a.eval (.tmp x) = v := hx
  simp [execOp, h.op, this, hr]
theorem IsOp.extract {o : Oper} {d x i : Nat} (h : IsOp o d (.extract (.tmp x) i)) {a : Act} {w : World} {c : Value} {cs : Array Value} (hx : a.tmps.getD x Go.undef = .tuple cs) (hc : cs[i]? = some c) : (execOp a.eval o).run P w = .ok (.value c) w := by
  have : a.eval (.tmp x) = .tuple cs := hx
  simp [execOp, h.op, this, Instr.extract, hc]
theorem IsOp.assign {o : Oper} {d x : Nat} (h : IsOp o d (.assign (.tmp x))) {a : Act} {w : World} {c : Value} (hx : a.tmps.getD x Go.undef = c) : (execOp a.eval o).run P w = .ok (.value c) w := by
  have : a.eval (.tmp x) = c := hx
  simp [execOp, h.op, this]

/-! ### A round's head -/
theorem loop_end (hF : FOk F) {n i4 : Nat} {p0 p1 : Oper} (hp0 : IsOp p0 14 (.next (.tmp 13) false)) (hp1 : IsOp p1 15 (.extract (.tmp 14) 0)) {rest : Code} {Q : Exit → Act → World → Prop} {a : Act} {w : World} {v : Value} (hsz : 27 ≤ a.tmps.size)
    (hx : a.tmps.getD 13 Go.undef = v) (hr : (Instr.next v false p0.type).run P w = .ok (.tuple #[.bool false]) w) (hQ : Q (.exit 0) ((a.put (some 14) (.tuple #[.bool false])).put (some 15) (.bool false)) w) :
    (Code.seq (.region i4 #[p0, p1] false) (.seq (.cond (.tmp 15) .skip (.exit 0)) rest)).wpIn F n P Q a w := by
  refine wpIn_seq (wpIn_region ?_)
  show wpOpsIn F n P #[p0, p1] _ [0, 1] a w
  refine hp0.hand hF (by simp) rfl (hp0.next hx hr) ?_
  refine hp1.hand hF (by simp) rfl (hp1.extract (getD_put_same (by omega)) rfl) ?_
  refine wpIn_seq ?_
  refine wpIn_cond_false (getD_put_same (by rw [size_put]; omega)) ?_
  exact wpIn_exit hQ
theorem loop_more (hF : FOk F) {n i4 : Nat} {p0 p1 : Oper} (hp0 : IsOp p0 14 (.next (.tmp 13) false)) (hp1 : IsOp p1 15 (.extract (.tmp 14) 0)) {rest : Code} {Q : Exit → Act → World → Prop} {a : Act} {w w' : World} {v x y : Value} (hsz : 27 ≤ a.tmps.size)
    (hx : a.tmps.getD 13 Go.undef = v) (hr : (Instr.next v false p0.type).run P w = .ok (.tuple #[.bool true, x, y]) w') (hQ : rest.wpIn F n P Q ((a.put (some 14) (.tuple #[.bool true, x, y])).put (some 15) (.bool true)) w') :
    (Code.seq (.region i4 #[p0, p1] false) (.seq (.cond (.tmp 15) .skip (.exit 0)) rest)).wpIn F n P Q a w := by
  refine wpIn_seq (wpIn_region ?_)
  show wpOpsIn F n P #[p0, p1] _ [0, 1] a w
  refine hp0.hand hF (by simp) rfl (hp0.next hx hr) ?_
  refine hp1.hand hF (by simp) rfl (hp1.extract (getD_put_same (by omega)) rfl) ?_
  refine wpIn_seq ?_
  refine wpIn_cond_true (getD_put_same (by rw [size_put]; omega)) ?_
  exact wpIn_skip hQ
theorem round_start (hF : FOk F) {n i5 : Nat} {q0 q1 q2 q3 q4 : Oper} (hq0 : IsOp q0 16 (.entry (.tmp 13))) (hq1 : IsOp q1 17 (.extract (.tmp 16) 0)) (hq2 : IsOp q2 18 (.extract (.tmp 16) 1)) (hq3 : IsOp q3 4 (.assign (.tmp 17))) (hq4 : IsOp q4 5 (.assign (.tmp 18)))
    {rest : Code} {Q : Exit → Act → World → Prop} {a : Act} {w : World} {v x y : Value} (hsz : 27 ≤ a.tmps.size)
    (hx : a.tmps.getD 13 Go.undef = v) (hr : (Instr.entry v).run P w = .ok (.tuple #[x, y]) w) (hQ : rest.wpIn F n P Q (((((a.put (some 16) (.tuple #[x, y])).put (some 17) x).put (some 18) y).put (some 4) x).put (some 5) y) w) :
    (Code.seq (.region i5 #[q0, q1, q2, q3, q4] false) rest).wpIn F n P Q a w := by
  refine wpIn_seq (wpIn_region ?_)
  show wpOpsIn F n P #[q0, q1, q2, q3, q4] _ [0, 1, 2, 3, 4] a w
  refine hq0.hand hF (by simp) rfl (hq0.entry hx hr) ?_
  refine hq1.hand hF (by simp) rfl (hq1.extract (getD_put_same (by omega)) rfl) ?_
  refine hq2.hand hF (by simp) rfl (hq2.extract ((getD_put_ne (by decide)).trans (getD_put_same (by omega))) rfl) ?_
  refine hq3.hand hF (by simp) rfl (hq3.assign ((getD_put_ne (by decide)).trans (getD_put_same (by simp only [size_put]; omega)))) ?_
  refine hq4.hand hF (by simp) rfl (hq4.assign ((getD_put_ne (by decide)).trans (getD_put_same (by simp only [size_put]; omega)))) ?_
  show rest.wpIn F n P Q _ w
  exact hQ

end Go.Qa
end

/- The range over a map of one entry at the most: sound. -/
section
namespace Go.Qa
variable {P : Program} {C : Ctx} {F : Fence}

theorem MRel.nil_inv {σ : Sig} {ces : Array MapEntry} (h : MRel σ [] ces.toList) : ces = #[] := by
  obtain ⟨l, p, m⟩ := h.perm
  cases m
  have := p.symm.eq_nil
  exact Array.toList_eq_nil_iff.1 this
theorem MRel.one_inv {σ : Sig} {k v : AV} {ces : Array MapEntry} (h : MRel σ [(k, v)] ces.toList) : ∃ e, ces = #[e] ∧ VRel σ k e.key ∧ VRel σ v e.val := by
  obtain ⟨l, p, m⟩ := h.perm
  cases m with
  | cons _ _ e _ l a b m =>
    cases m
    have := List.perm_singleton.1 p.symm
    exact ⟨e, by rw [← Array.toList_inj, this], a, b⟩

theorem next_none {w : World} {ty r bm since c0 clock : Nat} {seen : Array Nat} {es : Array MapEntry} (hr : w.heap[r]? = some (.mapIter (some bm) since seen c0)) (hb : w.heap[bm]? = some (.map es clock)) (hold : ∀ x ∈ es.toList, x.born < since) (hsc : since ≤ c0)
    (hs : ∀ x ∈ es.toList, x.born ∈ seen) : (Instr.next (.pointer (some ⟨r, 0, none⟩)) false ty).run P w = .ok (.tuple #[.bool false]) w := by
  rcases run_next_at (P := P) w ty r bm since c0 seen es clock hr hb hold hsc with ⟨_, h⟩ | ⟨e, he, _⟩
  · exact h
  · exfalso
    unfold leftOf at he
    simp at he
    exact he.2 (hs e (by simpa using he.1))
theorem next_one {w : World} {ty r bm since c0 clock : Nat} {e : MapEntry} (hr : w.heap[r]? = some (.mapIter (some bm) since #[] c0)) (hb : w.heap[bm]? = some (.map #[e] clock)) (hold : e.born < since) (hsc : since ≤ c0) :
    ∃ w1 : World, w1.heap = w.heap ∧ w1.os = w.os ∧ w1.tape = w.tape ∧ w1.output = w.output ∧ (Instr.next (.pointer (some ⟨r, 0, none⟩)) false ty).run P w = .ok (.tuple #[.bool true, e.key, e.val]) (w1.putObj r (.mapIter (some bm) since #[e.born] clock)) := by
  rcases run_next_at (P := P) w ty r bm since c0 #[] #[e] clock hr hb (by simpa using hold) hsc with ⟨h0, _⟩ | ⟨x, hx, w1, hw, h⟩
  · exfalso; unfold leftOf at h0; simp at h0
  · unfold leftOf at hx
    simp at hx
    subst hx
    refine ⟨w1, ?_, ?_, ?_, ?_, h⟩ <;> rcases hw with rfl | rfl <;> rfl

theorem putL3 {T : Tmps} {a b c : Nat} {x y z : AV} : putL T [(a, x), (b, y), (c, z)] = ((T.put a x).put b y).put c z := rfl

set_option maxHeartbeats 1000000 in
theorem mapLoop_sound {prog : Nat → Option AFun} {n : Nat} (K : CtxOk C P) (hF : FOk F) (hcode : CodeOk C P F (run prog n)) {i3 i4 i5 tm kt et : Nat} {ops3 : Array Oper} {l4 : List Oper} {o4 p0 p1 q0 q1 q2 q3 q4 : Oper} {pre3 l6 : List AOper} {r6 : Code}
    (h3 : ops3.toList = l4 ++ [o4]) (hl4 : l4.length = 4) (hpre : cOpers.go0 C (ops3.toList.map (·.dst)) l4 = some pre3) (hpure : ∀ o ∈ pre3, ∀ f a, o.op ≠ .call f a)
    (ho4 : IsOp o4 13 (.range tm (.tmp 12))) (htm : P.underlying tm = some (.map kt et))
    (hp0 : IsOp p0 14 (.next (.tmp 13) false)) (hp1 : IsOp p1 15 (.extract (.tmp 14) 0))
    (hq0 : IsOp q0 16 (.entry (.tmp 13))) (hq1 : IsOp q1 17 (.extract (.tmp 16) 0)) (hq2 : IsOp q2 18 (.extract (.tmp 16) 1)) (hq3 : IsOp q3 4 (.assign (.tmp 17))) (hq4 : IsOp q4 5 (.assign (.tmp 18)))
    (h6 : cCode C r6 = .region true l6) (hk : ∀ o ∈ l6, o.dst ≠ some 12 ∧ o.dst ≠ some 13) :
    SoundC C P F prog n (.seq (.region false pre3) (.block 0 (.seq (.mapIt false) (.seq (.region true l6) (.mapIt true)))))
      (.seq (.region i3 ops3 false) (.block 0 (.loop (.seq (.region i4 #[p0, p1] false) (.seq (.cond (.tmp 15) .skip (.exit 0)) (.block 1 (.seq (.region i5 #[q0, q1, q2, q3, q4] false) r6))))))) := by
  intro m hm T s e T' s' hr F' hF' k Q B σ a w hb h G ht mk hB hn hQ
  have hFF : F' = F := hF'.elim (fun h => h) fun ⟨_, b⟩ => by cases b
  subst hFF
  obtain ⟨j, rfl, ⟨T1, s1, hreg, hblk⟩ | ⟨hne, hbad⟩⟩ := seq_inv hr
  case inr => obtain ⟨_, _, he, _⟩ := region_inv hbad; exact absurd he hne
  have st1 := run_step prog j _ _ _ _ _ _ hb hreg
  have stb := run_step prog j _ _ _ _ _ _ (st1.le hb) hblk
  obtain ⟨j1, rfl, _, hops⟩ := region_inv hreg
  rw [runOps_pure (c' := call0) (r' := call0) hpure] at hops
  obtain ⟨j2, hj2, hin⟩ := block_inv hblk
  have hj2 : j1 = j2 := by omega
  subst hj2
  -- the operations ahead of the range
  refine wpIn_seq (wpIn_region ?_)
  have hsize : ops3.size = 5 := by rw [← Array.length_toList, h3]; simp [hl4]
  have hrange : List.range ops3.size = List.range' 0 l4.length ++ [4] := by rw [hsize, hl4]; rfl
  rw [hrange]
  refine opsIn_pre (n := k) K hF (call0_ok (F := F')) round0_ok call0_step call0_step l4 [4] [o4] 0 pre3 T a s w σ T1 s1 (by rw [List.drop_zero]; exact h3) hpre hops hb G ht h (hn_le stb.next hn) ?_
  rintro a1 w1 ⟨σ1, p1', t1, d1⟩
  have hn1 := grow_none p1' stb.next hn
  have G1 := G.mono p1'.ext.sub
  have mk1 : Marks σ1 s1.get w1 B a1.defers := by rw [d1]; exact mk.post p1' h (hn_le stb.next hn)
  -- what the head says
  have inner : ∃ e0, run prog j1 (.seq (.mapIt false) (.seq (.region true l6) (.mapIt true))) T1 s1 = some (e0, T', s') ∧ (e0 = .exit 0 → e = .normal) := by
    rcases hin with ⟨he, hx⟩ | ⟨he, hx⟩
    · exact ⟨_, hx, fun _ => he⟩
    · exact ⟨e, hx, fun hh => absurd hh he⟩
  obtain ⟨e0, hin, hee⟩ := inner
  obtain ⟨j2, rfl, hcase⟩ := seq_inv hin
  have head : ∃ b l s2, mapIt false T1.n (T1.get 12) s1 = some (b, l, s2) ∧ ((b = true ∧ T' = putL T1 l ∧ s' = s2 ∧ e0 = .exit 0) ∨ (b = false ∧ run prog j2 (.seq (.region true l6) (.mapIt true)) (putL T1 l) s2 = some (e0, T', s'))) := by
    rcases hcase with ⟨T2, s2, hh, hrest⟩ | ⟨hne, hh⟩
    · obtain ⟨b, l, hm, rfl, hb'⟩ := mapIt_inv hh
      refine ⟨b, l, s2, hm, .inr ⟨?_, hrest⟩⟩
      cases b
      · rfl
      · cases hb'
    · obtain ⟨b, l, hm, e2, hb'⟩ := mapIt_inv hh
      cases b with
      | false => exact absurd hb' hne
      | true => exact ⟨true, l, s', hm, .inl ⟨rfl, e2, rfl, hb'⟩⟩
  obtain ⟨b, l, s2, hhd, hcont⟩ := head
  obtain ⟨id, hT12, hlt, h27, hs2, hes⟩ := mapHead_inv hhd
  -- the map
  have hmapV := t1.at_ 12
  rw [hT12] at hmapV
  obtain ⟨p, hp, hv12⟩ : ∃ p, σ1 id = some p ∧ a1.tmps.getD 12 Go.undef = .map (some p.block) := by
    generalize a1.tmps.getD 12 Go.undef = z at hmapV
    cases hmapV with
    | map _ p hp => exact ⟨p, hp, rfl⟩
  have hsz : 27 ≤ a1.tmps.size := by rw [← t1.size]; exact h27
  have hlive : s1.get id ≠ none := by rcases hes with ⟨hg, _⟩ | ⟨_, _, hg, _⟩ <;> rw [hg] <;> simp
  have hmap : ∃ ces ck, w1.heap[p.block]? = some (.map ces ck) ∧ (∀ x ∈ ces.toList, x.born < ck) ∧ ∀ es, s1.get id = some (.map es) → MRel σ1 es ces.toList := by
    rcases hes with ⟨hg, _⟩ | ⟨kk, vv, hg, _⟩
    all_goals
      obtain ⟨p', hp', ces, ck, hw, hm, hbn⟩ := p1'.rel.obj _ _ hg
      rw [hp] at hp'; injection hp' with hp'; subst hp'
      exact ⟨ces, ck, hw, hbn, fun es he => by rw [hg] at he; injection he with he; injection he with he; subst he; exact hm⟩
  obtain ⟨ces, ck, hw1, hbn, hMR⟩ := hmap
  have hplt : p.block < w1.heap.size := (Array.getElem?_eq_some_iff.1 hw1).1
  -- the range
  let r : Nat := w1.heap.size
  let it : Value := .pointer (some ⟨r, 0, none⟩)
  let w2 := w1.alloc (.mapIter (some p.block) ck #[] ck)
  refine ho4.hand hF (by simp) ?_ (ho4.range hv12 (run_range_map w1 tm kt et p.block ces ck htm hw1)) ?_
  · have : ops3.toList[4]? = some o4 := by rw [h3, List.getElem?_append_right (by omega), hl4]; rfl
    simpa using this
  have hn0 : σ1 s1.next = none := by
    have : s1.next < s'.next := by
      have h1 : s2.next = s1.next + 1 := by rw [hs2]; rfl
      rcases hcont with ⟨_, _, rfl, _⟩ | ⟨_, hrest⟩
      · omega
      · have := (run_step prog _ _ _ _ _ _ _ (by rw [h1, hs2]; show s1.base ≤ _; have := st1.le hb; omega) hrest).next
        omega
    exact hn1 _ (Nat.le_refl _) this
  have hs2n1 : s2.next = s1.next + 1 := by rw [hs2]; rfl
  have hnd : ∀ id, s1.next ≤ id → id < s2.next → σ1 id = none := fun id h1 h2 => by
    have : id = s1.next := by omega
    subst this; exact hn0
  have pd : Post C σ1 s1 w1 (σ1.ins s1.next ⟨r, 0, 0⟩) s2 w2 := by rw [hs2]; exact post_dead p1'.rel hn0 _
  have hr2 : w2.heap[r]? = some (.mapIter (some p.block) ck #[] ck) := by
    show (w1.heap.push _)[w1.heap.size]? = _; simp
  have hb2 : w2.heap[p.block]? = some (.map ces ck) := by rw [alloc_old hplt]; exact hw1
  have hapart : ∀ i q, s2.get i ≠ none → σ1.ins s1.next ⟨r, 0, 0⟩ i = some q → q.block ≠ r := by
    intro i q hi hq
    have h1 : i ≠ s1.next ∧ s1.get i ≠ none := by
      rw [hs2, St.get_kill] at hi
      by_cases e : i = s1.next
      · rw [if_pos e] at hi; exact absurd rfl hi
      · rw [if_neg e] at hi
        refine ⟨e, ?_⟩
        cases hy : (s1.new (.map [])).get i with
        | none => exact absurd hy hi
        | some y =>
          rcases St.get_new s1 _ i y hy with ⟨e', _⟩ | ⟨_, ey⟩
          · exact absurd e' e
          · rw [ey]; simp
    obtain ⟨q', hq', hlt'⟩ := p1'.rel.sig h1.2
    have : σ1.ins s1.next ⟨r, 0, 0⟩ i = some q' := Sig.ins_sub _ hn0 _ _ hq'
    rw [hq] at this; injection this with this; subst this
    show q.block ≠ w1.heap.size
    omega
  have t2 : TRel (σ1.ins s1.next ⟨r, 0, 0⟩) (T1.put 13 (.ptr s1.next 0)) (a1.put (some 13) it).tmps :=
    TRel.put (d := some 13) (t1.mono pd.ext.sub) (VRel.ptr s1.next 0 ⟨r, 0, 0⟩ (Sig.ins_self _ _ _))
  have mk2 : Marks (σ1.ins s1.next ⟨r, 0, 0⟩) s2.get w2 B (a1.put (some 13) it).defers := by
    rw [put_defers]; exact mk1.post pd p1'.rel hnd
  have hnext2 : s2.next ≤ s'.next := by
    rcases hcont with ⟨_, _, rfl, _⟩ | ⟨_, hrest⟩
    · exact Nat.le_refl _
    · have h1 : s2.next = s1.next + 1 := by rw [hs2]; rfl
      exact (run_step prog _ _ _ _ _ _ _ (by rw [h1, hs2]; show s1.base ≤ _; have := st1.le hb; omega) hrest).next
  refine wpIn_block ?_
  have pall : ∀ {w3 : World}, Post C σ1 s1 w1 (σ1.ins s1.next ⟨r, 0, 0⟩) s2 w3 → Post C σ s w (σ1.ins s1.next ⟨r, 0, 0⟩) s2 w3 := fun q => p1'.trans q (hn_le hnext2 hn)
  have h13 : (a1.put (some 13) it).tmps.getD 13 Go.undef = it := getD_put_same (by omega)
  have hsz2 : 27 ≤ (a1.put (some 13) it).tmps.size := by rw [size_put]; exact hsz
  rcases hes with ⟨hg, hb0, hl⟩ | ⟨kk, vv, hg, hb0, hl⟩
  · -- no entry
    subst hb0; subst hl
    rcases hcont with ⟨_, hT', hs', he0⟩ | ⟨hx, _⟩
    case inr => cases hx
    have hen := hee he0
    subst hen; subst hT'; subst hs'
    have hce : ces = #[] := (hMR _ hg).nil_inv
    subst hce
    refine wpIn_loop_rounds 1 ?_
    rw [roundsIn_succ]
    refine loop_end hF hp0 hp1 hsz2 h13 (next_none hr2 hb2 (by simp) (Nat.le_refl _) (by simp)) ?_
    refine hQ _ _ ⟨_, pall pd, ?_, ?_⟩
    · rw [putL3]
      exact TRel.put (d := some 15) (TRel.put (d := some 14) t2 (.tup _ _ (.cons _ _ _ _ (.bool _) .nil))) (.bool _)
    · simp only [put_defers] at mk2 ⊢; exact mk2
  · -- one
    subst hb0; subst hl
    rcases hcont with ⟨hx, _⟩ | ⟨_, hrest⟩
    case inl => cases hx
    obtain ⟨ce, hce, hkr, hvr⟩ := (hMR _ hg).one_inv
    subst hce
    have hborn : ce.born < ck := hbn ce (by simp)
    obtain ⟨w2', e1, e2, e3, e4, hnx⟩ := next_one (P := P) (ty := p0.type) hr2 hb2 hborn (Nat.le_refl _)
    let w3 := w2'.putObj r (.mapIter (some p.block) ck #[ce.born] ck)
    have pd3 : Post C σ1 s1 w1 (σ1.ins s1.next ⟨r, 0, 0⟩) s2 w3 := (pd.like e1 e2 e3 e4).aside (Nat.le_refl _) hapart
    have hrsz : r < w2'.heap.size := by rw [e1]; exact (Array.getElem?_eq_some_iff.1 hr2).1
    have hr3 : w3.heap[r]? = some (.mapIter (some p.block) ck #[ce.born] ck) := World.putObj_heap_same hrsz
    have hb3 : w3.heap[p.block]? = some (.map #[ce] ck) := by
      show (w2'.putObj r _).heap[p.block]? = _
      rw [World.putObj_heap_other (by show p.block ≠ w1.heap.size; omega), e1]; exact hb2
    obtain ⟨j3, rfl, ⟨T3, s3, ha6, htl⟩ | ⟨hne, hx⟩⟩ := seq_inv hrest
    case inr => obtain ⟨_, _, he, _⟩ := regionD_inv hx; exact absurd he hne
    have hb2' : s2.base ≤ s2.next := by rw [hs2]; show s1.base ≤ s1.next + 1; have := st1.le hb; omega
    have st6 := run_step prog j3 _ _ _ _ _ _ hb2' ha6
    have ha6' := ha6
    obtain ⟨j4, _, _, hopsD⟩ := regionD_inv ha6'
    obtain ⟨hk12, hkn⟩ := runOpsD_keeps (i := 12) (fun o ho => (hk o ho).1) hopsD
    obtain ⟨hk13, _⟩ := runOpsD_keeps (i := 13) (fun o ho => (hk o ho).2) hopsD
    obtain ⟨b2, l2, htl2, hT', he0⟩ := mapIt_inv htl
    obtain ⟨id3, hid3, hlt3, hnw, hs', hb2t, hl2⟩ := mapTail_inv htl2
    subst hb2t; subst hl2; subst hs'
    have hen := hee he0
    subst hen; subst hT'
    -- the temporaries
    let T2 := putL T1 [(13, .ptr s1.next 0), (14, .tup [.bool true, kk, vv]), (15, .bool true), (16, .tup [kk, vv]), (17, kk), (18, vv), (4, kk), (5, vv)]
    have g : ∀ i, T2.get i = (if i = 5 then vv else if i = 4 then kk else if i = 18 then vv else if i = 17 then kk else if i = 16 then .tup [kk, vv] else if i = 15 then .bool true else if i = 14 then .tup [.bool true, kk, vv] else if i = 13 then .ptr s1.next 0 else T1.get i) := by
      intro i
      show ((((((((T1.put 13 _).put 14 _).put 15 _).put 16 _).put 17 _).put 18 _).put 4 _).put 5 _).get i = _
      simp only [Tmps.get_put, Tmps.n_put]
      have q : ∀ d, d < 27 → d < T1.n := fun d hd => by omega
      simp only [q 5 (by omega), q 4 (by omega), q 18 (by omega), q 17 (by omega), q 16 (by omega), q 15 (by omega), q 14 (by omega), q 13 (by omega), and_true]
    have g12 : T3.get 12 = .map id := by rw [hk12]; show T2.get 12 = _; rw [g]; simpa using hT12
    have g13 : T3.get 13 = .ptr s1.next 0 := by rw [hk13]; show T2.get 13 = _; rw [g]; rfl
    rw [g12] at hid3
    injection hid3 with hid3; subst hid3
    have hsub := pd.ext.sub
    refine wpIn_loop_rounds 2 ?_
    rw [roundsIn_succ]
    refine loop_more hF hp0 hp1 hsz2 h13 hnx ?_
    refine wpIn_block ?_
    have hent : (Instr.entry it).run P w3 = .ok (.tuple #[ce.key, ce.val]) w3 := by
      refine run_entry_at w3 r p.block ck #[] #[ce] ck ce ?_ hb3 (by simp) (by simp)
      simpa using hr3
    refine round_start hF hq0 hq1 hq2 hq3 hq4 (by simp only [size_put]; exact hsz) (((getD_put_ne (by decide)).trans (getD_put_ne (by decide))).trans h13) hent ?_
    have hkr' := hkr.mono hsub
    have hvr' := hvr.mono hsub
    have t3 : TRel (σ1.ins s1.next ⟨r, 0, 0⟩) T2 ((((((((a1.put (some 13) it).put (some 14) (.tuple #[.bool true, ce.key, ce.val])).put (some 15) (.bool true)).put (some 16) (.tuple #[ce.key, ce.val])).put (some 17) ce.key).put (some 18) ce.val).put (some 4) ce.key).put (some 5) ce.val).tmps := by
      show TRel _ ((((((((T1.put 13 _).put 14 _).put 15 _).put 16 _).put 17 _).put 18 _).put 4 _).put 5 _) _
      refine TRel.put (d := some 5) ?_ hvr'
      refine TRel.put (d := some 4) ?_ hkr'
      refine TRel.put (d := some 18) ?_ hvr'
      refine TRel.put (d := some 17) ?_ hkr'
      refine TRel.put (d := some 16) ?_ (.tup _ _ (.cons _ _ _ _ hkr' (.cons _ _ _ _ hvr' .nil)))
      refine TRel.put (d := some 15) ?_ (.bool _)
      exact TRel.put (d := some 14) t2 (.tup _ _ (.cons _ _ _ _ (.bool _) (.cons _ _ _ _ hkr' (.cons _ _ _ _ hvr' .nil))))
    have hn2 : ∀ i, s2.next ≤ i → i < s'.next → σ1.ins s1.next ⟨r, 0, 0⟩ i = none := by
      intro i h1 h2
      have : s2.next = s1.next + 1 := by rw [hs2]; rfl
      unfold Sig.ins
      rw [if_neg (by omega)]
      exact hn1 i (by omega) h2
    have mk3 : Marks (σ1.ins s1.next ⟨r, 0, 0⟩) s2.get w3 B (a1.put (some 13) it).defers := by
      rw [put_defers]; exact mk1.post pd3 p1'.rel hnd
    have h6s := SoundC.of hcode r6
    rw [h6] at h6s
    refine h6s j3 (by omega) _ _ _ _ _ ha6 F' (.inl rfl) k _ B _ _ w3 hb2' pd3.rel (G1.mono hsub) t3 (by simp only [put_defers] at mk3 ⊢; exact mk3) (Nat.le_trans (Nat.le_trans hB p1'.size) pd3.size) hn2 ?_
    rintro a4 w4 ⟨σ3, p6, t4, mk4⟩
    have hr4 : w4.heap[r]? = some (.mapIter (some p.block) ck #[ce.born] ck) := by
      rw [p6.frame r (Array.getElem?_eq_some_iff.1 hr3).1 fun i q a b c => absurd b (hapart i q c a)]; exact hr3
    have hlive2 : s2.get id ≠ none := by
      intro hx
      have h1 : id ≠ s1.next := by have := (get_lt hlive).1; omega
      rw [hs2, St.get_kill, if_neg h1] at hx
      have : (s1.new (.map [])).get id = s1.get id := by
        unfold St.get St.new
        simp only [Tr.get_set, if_neg h1]
        have hl := (get_lt hlive).1
        have e1 : Nat.blt id (Nat.succ s1.next) = true := by rw [blt_iff]; simp; omega
        have e2 : Nat.blt id s1.next = true := by rw [blt_iff]; simp; omega
        rw [e1, e2]
      rw [this] at hx
      exact hlive hx
    have hb4 : w4.heap[p.block]? = some (.map #[ce] ck) := by
      rw [p6.frame p.block (Array.getElem?_eq_some_iff.1 hb3).1 fun i q a b c => ?_]; exact hb3
      have : i = id := by
        by_cases e : i = id
        · exact e
        · exact absurd b (pd3.rel.apart i id q p c hlive2 e a (hsub _ _ hp))
      subst this
      exact ⟨by rw [hs2]; exact hlt, hnw⟩
    show Code.roundsIn F' k P _ _ 1 a4 w4
    rw [roundsIn_succ]
    have hit : a4.tmps.getD 13 Go.undef = it := by
      have := t4.at_ 13
      rw [g13] at this
      generalize a4.tmps.getD 13 Go.undef = z at this
      cases this with
      | ptr _ _ q hq =>
        have e := p6.ext.sub _ _ (Sig.ins_self σ1 s1.next ⟨r, 0, 0⟩)
        rw [hq] at e; injection e with e; subst e; rfl
    refine loop_end hF hp0 hp1 (by rw [← t4.size, hkn]; show 27 ≤ T2.n; simp only [T2, putL, Tmps.n_put]; exact h27) hit (next_none hr4 hb4 (by simpa using hborn) (Nat.le_refl _) (by simp)) ?_

    refine hQ _ _ ⟨σ3, (p1'.trans (pd3.trans p6 hn1) hn), ?_, ?_⟩
    · exact TRel.put (d := some 15) (TRel.put (d := some 14) t4 (.tup _ _ (.cons _ _ _ _ (.bool _) .nil))) (.bool _)
    · simp only [put_defers]; exact mk4

end Go.Qa
end

/- The contract of a function whose body is sound piece by piece; the one that ranges over a map. -/
section
namespace Go.Qa
variable {P : Program} {C : Ctx} {F : Fence}

theorem callAt_gen {prog : Nat → Option AFun} {run : Run} (K : CtxOk C P) (hF : FOk F) (hF0 : F.round = none) {f : Nat} {af : AFun} {fn : Func} {b : Code} (hp : prog f = some af) (h1 : P.funcs[f]? = some fn) (h2 : (fn.name == "runtime.NumGoroutine") = false) (h3 : fn.body = some b)
    (hnt : af.ntmps = fn.ntmps) (hrs : cRes C fn.results.toList = some af.res) (hbody : ∀ T s e T' s', run af.body T s = some (e, T', s') → CodeAt C F false T s e T' s' fun F' k Q a w => b.wpIn F' k P Q a w) : CallAt C P F (callF prog run) f := by
  intro args s v s' h k σ w cargs hb hH G hv hn
  have h2' : ¬ fn.name = "runtime.NumGoroutine" := by simpa using h2
  have hent : (callFunc f cargs).run P w = .ok (.enter f cargs) w := by simp [callFunc, h1, h2', h3]
  rw [hent]
  unfold callF at h
  rw [hp] at h
  simp only at h
  have main : ∀ (e : AExit) (T : Tmps) (s1 : St), (e = .normal ∨ e = .ret) → run af.body (startT args 0 ⟨Nat.max af.ntmps (llen args), blank, .nil⟩) ⟨s.heap, s.next, s.next, [], s.hid⟩ = some (e, T, s1) → resA s1 T af.res = some v → s' = ⟨s1.heap, s1.next, s.base, noteAll s s1.wr, s.hid⟩ →
      CallsIn F k P f cargs w fun e w'' => ∃ c, e = .returned c ∧ Good C σ s w s' v c w'' := by
    intro e T s1 he hrun hres hs'
    subst hs'
    refine callsIn_of_wp_marks h1 h3 (hF.fn f) ?_ hF0
    refine hbody _ _ _ _ _ hrun F (.inl rfl) k _ w.heap.size σ _ w (Nat.le_refl _) hH G (by rw [hnt]; exact start_rel hv fn.ntmps) (Marks.nil _ _ _ _) (Nat.le_refl _) hn ?_
    rintro a' w' ⟨σ', p1, p2, p3⟩
    have : bodyPostM F k P fn (fun e w'' => ∃ c, e = .returned c ∧ Good C σ s w ⟨s1.heap, s1.next, s.base, noteAll s s1.wr, s.hid⟩ v c w'') (exitOf e) a' w' = LeavesInM F k P fn a'.tmps (fun e w'' => ∃ c, e = .returned c ∧ Good C σ s w ⟨s1.heap, s1.next, s.base, noteAll s s1.wr, s.hid⟩ v c w'') a'.defers .returning w' := by
      rcases he with rfl | rfl <;> rfl
    rw [this]
    obtain ⟨rs, e1, e2, e3⟩ := p3.ex
    rw [e1]
    refine leavesM rs w' e2 e3 p1 fun w'' q => ?_
    obtain ⟨c, c1, c2⟩ := results_ok (P := P) K q.rel p2 hrs hres
    exact ⟨c, c1, c, rfl, σ', q.sub, c2⟩
  split at h <;> first | (cases h; done) | skip
  all_goals
    rename_i T s1 hrun
    split at h <;> first | (cases h; done) | skip
    rename_i v' hres
    injection h with h; obtain ⟨rfl, rfl⟩ := pair_inj h
  · exact main _ _ _ (.inl rfl) hrun hres rfl
  · exact main _ _ _ (.inr rfl) hrun hres rfl

/-- the abstract code of a function that copies a map of one entry at the most: made of what the compiler makes of its stretches -/
def copyA (a0 a1 a2 : ACode) (pre3 : List AOper) (a6 a7 : ACode) : ACode :=
  .seq a0 (.seq a1 (.seq (.seq a2 (.cond (.t 8) (.seq (.region false pre3) (.block 0 (.seq (.mapIt false) (.seq a6 (.mapIt true))))) .skip)) (.seq a7 .ret)))
theorem SoundC.skip {prog : Nat → Option AFun} {n : Nat} (h : CodeOk C P F (run prog n)) : SoundC C P F prog n .skip .skip := SoundC.of h .skip
theorem SoundC.ret {prog : Nat → Option AFun} {n : Nat} (h : CodeOk C P F (run prog n)) : SoundC C P F prog n .ret .ret := SoundC.of h .ret

theorem copy_at {prog : Nat → Option AFun} {n : Nat} (K : CtxOk C P) (hF : FOk F) (hF0 : F.round = none) (hcode : CodeOk C P F (run prog n)) {f : Nat} {af : AFun} {fn : Func} (hp : prog f = some af) (h1 : P.funcs[f]? = some fn) (h2 : (fn.name == "runtime.NumGoroutine") = false)
    (hnt : af.ntmps = fn.ntmps) (hrs : cRes C fn.results.toList = some af.res)
    {r0 r1 r2 r6 r7 : Code} {i3 i4 i5 tm kt et : Nat} {ops3 : Array Oper} {l4 : List Oper} {o4 p0 p1 q0 q1 q2 q3 q4 : Oper} {pre3 l6 : List AOper}
    (h3 : fn.body = some (.seq r0 (.seq r1 (.seq (.seq r2 (.cond (.tmp 8) (.seq (.region i3 ops3 false) (.block 0 (.loop (.seq (.region i4 #[p0, p1] false) (.seq (.cond (.tmp 15) .skip (.exit 0)) (.block 1 (.seq (.region i5 #[q0, q1, q2, q3, q4] false) r6))))))) .skip)) (.seq r7 .ret)))))
    (hbody : af.body = copyA (cCode C r0) (cCode C r1) (cCode C r2) pre3 (.region true l6) (cCode C r7))
    (e3 : ops3.toList = l4 ++ [o4]) (hl4 : l4.length = 4) (hpre : cOpers.go0 C (ops3.toList.map (·.dst)) l4 = some pre3) (hpure : ∀ o ∈ pre3, ∀ f a, o.op ≠ .call f a)
    (ho4 : IsOp o4 13 (.range tm (.tmp 12))) (htm : P.underlying tm = some (.map kt et))
    (hp0 : IsOp p0 14 (.next (.tmp 13) false)) (hp1 : IsOp p1 15 (.extract (.tmp 14) 0))
    (hq0 : IsOp q0 16 (.entry (.tmp 13))) (hq1 : IsOp q1 17 (.extract (.tmp 16) 0)) (hq2 : IsOp q2 18 (.extract (.tmp 16) 1)) (hq3 : IsOp q3 4 (.assign (.tmp 17))) (hq4 : IsOp q4 5 (.assign (.tmp 18)))
    (h6 : cCode C r6 = .region true l6) (hk : ∀ o ∈ l6, o.dst ≠ some 12 ∧ o.dst ≠ some 13) : CallAt C P F (callF prog (run prog n)) f := by
  refine callAt_gen K hF hF0 hp h1 h2 h3 hnt hrs ?_
  intro T s e T' s' hr
  rw [hbody] at hr
  have hc8 : cX C (.tmp 8) = some (.t 8) := rfl
  have := (SoundC.of hcode r0).seq ((SoundC.of hcode r1).seq (((SoundC.of hcode r2).seq (SoundC.cond hc8 (mapLoop_sound (i3 := i3) (i4 := i4) (i5 := i5) K hF hcode e3 hl4 hpre hpure ho4 htm hp0 hp1 hq0 hq1 hq2 hq3 hq4 h6 hk) (.skip hcode))).seq ((SoundC.of hcode r7).seq (.ret hcode))))
  exact this n (Nat.le_refl _) T s e T' s' hr

/-- what is to be known of a program, for the machine to be sound for it -/
structure ProgIs (C : Ctx) (P : Program) (prog : Nat → Option AFun) (copy : Nat) (cop : AFun) : Prop where
  ctx : CtxOk C P
  follows : P.follows .mixedOrders = true
  cases : ∀ f af, prog f = some af → (f = copy ∧ af = cop) ∨ (∃ k, af = ⟨arityN k, [.tmp 0], .native k⟩ ∧ ((k = .indexByte ∧ ExtOk P f Extern.BytealgIndexByte.indexByte) ∨ (k = .count ∧ ExtOk P f Extern.BytealgCount.count) ∨
    (k = .same ∧ ExtOk P f Extern.AbiNoEscape.same) ∨ ∃ ps t el, k = .noZero el ∧ ExtOk P f (Extern.BytealgMakeNoZero.makeNoZero ps #[t]) ∧ C.I.under t = some (.slice el))) ∨ Compiled C P f af
  enter : ∀ (args : Array Value) (w : World), (callFunc copy args).run P w = .ok (.enter copy args) w
  copyAt : ∀ (F : Fence), FOk F → F.round = none → ∀ n, CodeOk C P F (run prog n) → CallAt C P F (callF prog (run prog n)) copy
theorem ProgIs.ok {prog : Nat → Option AFun} {copy : Nat} {cop : AFun} (h : ProgIs C P prog copy cop) (hF : FOk F) (hF0 : F.round = none) : ProgOk C P F prog where
  fn f af hp := by
    rcases h.cases f af hp with ⟨rfl, rfl⟩ | ⟨k, rfl, hk⟩ | hc
    · exact .inr fun n hn => h.copyAt F hF hF0 n hn
    · refine .inr fun n _ => ?_
      rcases hk with ⟨rfl, h⟩ | ⟨rfl, h⟩ | ⟨rfl, h⟩ | ⟨ps, t, el, rfl, h', hu⟩
      · exact indexByte_at hp h
      · exact count_at hp h
      · exact same_at hp h
      · exact noZero_at h.ctx hp h' hu
    · exact .inl hc
  enter g he hp args w := by
    cases hg : prog g with
    | none => exact absurd hg hp
    | some af =>
      rcases h.cases g af hg with ⟨rfl, rfl⟩ | ⟨k, rfl, hk⟩ | hc
      · exact h.enter args w
      · unfold entersB at he
        rw [hg] at he
        cases he
      · exact hc.enter args w
theorem ProgIs.all {prog : Nat → Option AFun} {copy : Nat} {cop : AFun} (h : ProgIs C P prog copy cop) (hF : FOk F) (hF0 : F.round = none) (n : Nat) : CodeOk C P F (run prog n) ∧ CallOk C P F (callF prog (run prog n)) :=
  let g := run_ok h.ctx hF hF0 h.follows (h.ok hF hF0) n
  ⟨g.1, g.2.2⟩

end Go.Qa
end
