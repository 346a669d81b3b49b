/- Steps on the way to the card of EngineNew: runs of the abstract machine are runs of the model. -/
import Derived.Test.YtjclinlclbjobaaGreatDoorQaB
import Derived.Test.YtjclinlclbjobaaGreatDoorQaA
set_option linter.all false
set_option linter.unusedVariables false
set_option linter.unusedSimpArgs false
set_option linter.unnecessarySimpa false

/- Every operation: what the abstract machine says, the model does. -/
section
namespace Go.Qa
variable {P : Program} {C : Ctx} {σ : Sig} {T : Tmps} {a : Act} {s : St} {w : World} {nx : ANext} {s' : St}

theorem out_same (h : HRel C σ s.get w) {x : Sem Value} (H : ∃ v r, nx = .val v ∧ s' = s ∧ VRel σ v r ∧ x.run P w = .ok r w) : OpOut C P σ s w ((do pure (.value (← x)) : Sem Next).run P w) nx s' := by
  obtain ⟨v, r, rfl, rfl, h1, h2⟩ := H
  exact .val v r _ σ w (.refl h) h1 (.inl (by simp [h2]))
theorem out_mod {x : Sem Value} (H : ∃ v r w', nx = .val v ∧ Post C σ s w σ s' w' ∧ VRel σ v r ∧ x.run P w = .ok r w') : OpOut C P σ s w ((do pure (.value (← x)) : Sem Next).run P w) nx s' := by
  obtain ⟨v, r, w', rfl, h0, h1, h2⟩ := H
  exact .val v r _ σ w' h0 h1 (.inl (by simp [h2]))
theorem out_new {x : Sem Value} (H : ∃ v r σ' w', nx = .val v ∧ Post C σ s w σ' s' w' ∧ VRel σ' v r ∧ x.run P w = .ok r w') : OpOut C P σ s w ((do pure (.value (← x)) : Sem Next).run P w) nx s' := by
  obtain ⟨v, r, σ', w', rfl, h0, h1, h2⟩ := H
  exact .val v r _ σ' w' h0 h1 (.inl (by simp [h2]))
theorem out_unit {x : Sem Unit} (H : nx = .val .undef ∧ ∃ w', Post C σ s w σ s' w' ∧ x.run P w = .ok () w') : OpOut C P σ s w ((do x; pure .skip : Sem Next).run P w) nx s' := by
  obtain ⟨rfl, w', h0, h1⟩ := H
  exact .val .undef Go.undef _ σ w' h0 (VRel.undef σ) (.inr ⟨by simp [h1], rfl⟩)

theorem u8_under {I : Ti} {e : Nat} (he : isU8 I e = true) : I.under e = some (.int .u8) := by
  unfold isU8 at he
  split at he
  · assumption
  · cases he

/-! ### builtins -/
theorem builtin_ok (K : CtxOk C P) (G : GOk C σ) (ht : TRel σ T a.tmps) (h : HRel C σ s.get w) {bi : Builtin} {ts : List Nat} {as : List Operand} {ty : Nat} {cs : Array Bool} {b : AOp} (hc : cBuiltin C bi ts as = some b)
    (hn : ∀ id, s.next ≤ id → id < s'.next → σ id = none) (ho : opA b T s = some (nx, s')) : OpOut C P σ s w ((builtin bi ts.toArray ty cs (as.map a.eval).toArray).run P w) nx s' := by
  unfold cBuiltin at hc
  split at hc
  · -- append
    rename_i t u x y
    split at hc
    · rename_i e ku x' y' h1 h2 h3 h4
      split at hc <;> first | (cases hc; done) | skip
      rename_i n bt z hs hb hz
      split at hc <;> first | (cases hc; done) | skip
      injection hc with hc; subst hc
      exact out_new (op_appendZ_ok K h h1 h2 hs hb hz (cX_rel G ht h3) (cX_rel G ht h4) hn ho)
    · rename_i e du x' y' hnint h1 h2 h3 h4
      split at hc <;> first | (cases hc; done) | skip
      rename_i n bt z hs hb hz
      split at hc <;> first | (cases hc; done) | skip
      rename_i hzl
      injection hc with hc; subst hc
      rw [beq_iff, llen_eq] at hzl
      exact out_new (op_append_ok K h h1 h2 (fun k e => hnint k e) hs hb hz (of_decide_eq_true hzl) (cX_rel G ht h3) (cX_rel G ht h4) hn ho)
    · cases hc
  · -- copy
    split at hc <;> first | (cases hc; done) | skip
    rename_i e d x h1 h2 h3
    split at hc <;> first | (cases hc; done) | skip
    rename_i n hs
    injection hc with hc; subst hc
    exact out_mod (op_copy_ok K h h1 hs (cX_rel G ht h2) (cX_rel G ht h3) ho)
  · -- len
    split at hc <;> first | (cases hc; done) | skip
    · rename_i h1 h2; injection hc with hc; subst hc
      exact out_same h (op_lenStr_ok K h1 (cX_rel G ht h2) ho)
    · rename_i h1 h2; injection hc with hc; subst hc
      exact out_same h (op_lenS_ok K h1 (cX_rel G ht h2) ho)
    · rename_i h1 h2; injection hc with hc; subst hc
      exact out_same h (op_lenM_ok K h h1 (cX_rel G ht h2) ho)
    · rename_i n e x h1 h2; injection hc with hc; subst hc
      obtain ⟨rfl, rfl⟩ := val_inj ho
      exact out_same h ⟨_, goInt n, rfl, rfl, .int _ _, by simp [Builtin.len_, K.run_under h1]⟩
    · rename_i p x h1 h2
      split at hc <;> first | (cases hc; done) | skip
      rename_i n e h3
      injection hc with hc; subst hc
      obtain ⟨rfl, rfl⟩ := val_inj ho
      exact out_same h ⟨_, goInt n, rfl, rfl, .int _ _, by simp [Builtin.len_, K.run_under h1, K.run_under h3]⟩
  · -- cap
    split at hc <;> first | (cases hc; done) | skip
    · rename_i h1 h2; injection hc with hc; subst hc
      exact out_same h (op_capS_ok K h1 (cX_rel G ht h2) ho)
    · rename_i n e x h1 h2; injection hc with hc; subst hc
      obtain ⟨rfl, rfl⟩ := val_inj ho
      exact out_same h ⟨_, goInt n, rfl, rfl, .int _ _, by simp [Builtin.cap_, K.run_under h1]⟩
  · -- clear
    split at hc <;> first | (cases hc; done) | skip
    · rename_i h1 h2; injection hc with hc; subst hc
      exact out_mod (op_clearM_ok K h h1 (cX_rel G ht h2) ho)
    · rename_i h1 h2
      split at hc <;> first | (cases hc; done) | skip
      rename_i n z hs hz
      injection hc with hc; subst hc
      exact out_mod (op_clearS_ok K h h1 hs hz (cX_rel G ht h2) ho)
  · -- delete
    split at hc <;> first | (cases hc; done) | skip
    rename_i h1 h2 h3
    split at hc <;> first | (cases hc; done) | skip
    rename_i q hq
    injection hc with hc; subst hc
    exact out_mod (op_delete_ok K h h1 hq (cX_rel G ht h2) (cX_rel G ht h3) ho)
  · split at hc <;> first | (cases hc; done) | skip
    rename_i h1 h2
    injection hc with hc; subst hc
    exact out_same h (op_min2_ok (cX_rel G ht h1) (cX_rel G ht h2) ho)
  · split at hc <;> first | (cases hc; done) | skip
    rename_i h1 h2
    injection hc with hc; subst hc
    exact out_same h (op_max2_ok (cX_rel G ht h1) (cX_rel G ht h2) ho)
  · split at hc <;> first | (cases hc; done) | skip
    rename_i h1
    injection hc with hc; subst hc
    exact out_same h (op_sdata_ok (cX_rel G ht h1) ho)
  · split at hc <;> first | (cases hc; done) | skip
    rename_i h1 h2 h3
    split at hc <;> first | (cases hc; done) | skip
    rename_i he hs
    injection hc with hc; subst hc
    exact out_mod (op_ustr_ok K h h1 (u8_under he) hs (cX_rel G ht h2) (cX_rel G ht h3) ho)
  · cases hc

/-! ### comparing -/
theorem binOp_eql (t : Nat) {c : Value} (d : Value) (h1 : ∀ k n, c ≠ .int k n) (h2 : ∀ k n, c ≠ .float k n) (h3 : ∀ k n m, c ≠ .complex k n m) (h4 : ∀ b, c ≠ .string b) : binOp .eql t c d = (do pure (.bool (← Op.equal t c d))) := by
  cases c <;> first | rfl | exact absurd rfl (h1 _ _) | exact absurd rfl (h2 _ _) | exact absurd rfl (h3 _ _ _) | exact absurd rfl (h4 _)
theorem binOp_neq (t : Nat) {c : Value} (d : Value) (h1 : ∀ k n, c ≠ .int k n) (h2 : ∀ k n, c ≠ .float k n) (h3 : ∀ k n m, c ≠ .complex k n m) (h4 : ∀ b, c ≠ .string b) : binOp .neq t c d = (do pure (.bool (!(← Op.equal t c d)))) := by
  cases c <;> first | rfl | exact absurd rfl (h1 _ _) | exact absurd rfl (h2 _ _) | exact absurd rfl (h3 _ _ _) | exact absurd rfl (h4 _)

theorem eqGuard_none {op : BinOp} {t : Nat} {x y : Operand} {c d : Value} (h1 : c ≠ .nilIface) (h2 : (∀ cs, c ≠ .agg cs) ∨ P.eqGuardType P.depth t = false) : (eqGuard op t x y c d).run P w = .ok () w := by
  unfold eqGuard
  cases op <;> simp <;> cases c <;> simp at h1 h2 ⊢ <;> cases d <;> simp [h2]

def cmpC : Value → Bool
  | .bool _ | .pointer _ | .slice .. | .map _ | .func .. | .nilFunc => true
  | _ => false
theorem cmpC_ne {c : Value} (h : cmpC c = true) : (∀ k n, c ≠ .int k n) ∧ (∀ k n, c ≠ .float k n) ∧ (∀ k n m, c ≠ .complex k n m) ∧ (∀ b, c ≠ .string b) ∧ c ≠ .nilIface ∧ (∀ cs, c ≠ .agg cs) := by
  cases c <;> simp [cmpC] at h ⊢
theorem eq_shape {g : Nat} {q : EqT} {x y : AV} {r : Bool} {c : Value} (hq : q ≠ .int) (hq' : q ≠ .str) (h : eqA s (g + 1) q x y = some r) (hc : VRel σ x c) :
    cmpC c = true ∨ ((∃ cs, c = .agg cs) ∧ ((∃ fs, q = .struct fs) ∨ ∃ n e s t, q = .array n e s t)) := by
  cases q with
  | bool => obtain ⟨_, _, rfl, _⟩ := eqA_bool h; cases hc; exact .inl rfl
  | int => exact absurd rfl hq
  | str => exact absurd rfl hq'
  | ptr => rcases eqA_ptr h with ⟨rfl, _⟩ | ⟨rfl, _⟩ | ⟨⟨_, _, rfl⟩, _⟩ | ⟨_, _, _, _, rfl, _⟩ <;> cases hc <;> exact .inl rfl
  | sl => rcases eqA_sl h with ⟨rfl, _⟩ | ⟨rfl, _⟩ | ⟨⟨_, _, _, _, rfl⟩ | ⟨_, _, _, _, rfl⟩, _⟩ <;> cases hc <;> exact .inl rfl
  | map => rcases eqA_map h with ⟨rfl, _⟩ | ⟨rfl, _⟩ | ⟨⟨_, rfl⟩, _⟩ <;> cases hc <;> exact .inl rfl
  | func => rcases eqA_func h with ⟨rfl, _⟩ | ⟨rfl, _⟩ | ⟨⟨_, _, _, rfl⟩, _⟩ <;> cases hc <;> exact .inl rfl
  | struct fs => obtain ⟨_, _, rfl, _⟩ := eqA_struct h; cases hc; exact .inr ⟨⟨_, rfl⟩, .inl ⟨_, rfl⟩⟩
  | array n e a t => obtain ⟨_, _, rfl, _⟩ := eqA_array h; cases hc; exact .inr ⟨⟨_, rfl⟩, .inr ⟨_, _, _, _, rfl⟩⟩

theorem cEq_stood {I : Ti} {st : Nat → Bool} {f t : Nat} {q : EqT} (h : cEq I st f t = some q) (hq : (∃ fs, q = .struct fs) ∨ ∃ n e s t, q = .array n e s t) : st t = false := by
  cases f with
  | zero => simp [cEq] at h
  | succ g =>
    unfold cEq at h
    split at h
    all_goals first
      | (injection h with h; subst h; rcases hq with ⟨_, hq⟩ | ⟨_, _, _, _, hq⟩ <;> cases hq; done)
      | skip
    · split at h
      · injection h with h; subst h; rcases hq with ⟨_, hq⟩ | ⟨_, _, _, _, hq⟩ <;> cases hq
      · cases h
    · split at h
      · cases h
      · assumption
    · split at h
      · assumption
      · cases h
    · cases h

theorem op_eq_ok (K : CtxOk C P) (h : HRel C σ s.get w) {op : BinOp} {neg : Bool} (hop : isEqOp op = some neg) {t : Nat} {q : EqT} (hq : cEq C.I C.stood 40 t = some q) (hni : ∀ k, C.I.under t ≠ some (.int k)) (hns : C.I.under t ≠ some .string)
    {x y : AX} {ox oy : Operand} {c d : Value} (hx : VRel σ (ev T x) c) (hy : VRel σ (ev T y) d) (ho : op_eq neg q x y T s = some (nx, s')) :
    ∃ v r, nx = .val v ∧ s' = s ∧ VRel σ v r ∧ (do eqGuard op t ox oy c d; binOp op t c d : Sem Value).run P w = .ok r w := by
  unfold op_eq at ho
  split at ho <;> first | (cases ho; done) | skip
  rename_i r hr
  obtain ⟨rfl, rfl⟩ := val_inj ho
  have hpl := cEq_bool hq
  have hqi : q ≠ .int := fun e => by subst e; cases hpl with | int k hk => exact hni k hk
  have hqs : q ≠ .str := fun e => by subst e; cases hpl with | str hk => exact hns hk
  have hrun := eqA_ok (P := P) K h hq hr hx hy
  have hsh := eq_shape hqi hqs hr hx
  have hne : (∀ k n, c ≠ .int k n) ∧ (∀ k n, c ≠ .float k n) ∧ (∀ k n m, c ≠ .complex k n m) ∧ (∀ b, c ≠ .string b) ∧ c ≠ .nilIface ∧ ((∀ cs, c ≠ .agg cs) ∨ P.eqGuardType P.depth t = false) := by
    rcases hsh with hc | ⟨⟨cs, rfl⟩, hh⟩
    · obtain ⟨a1, a2, a3, a4, a5, a6⟩ := cmpC_ne hc
      exact ⟨a1, a2, a3, a4, a5, .inl a6⟩
    · exact ⟨by simp, by simp, by simp, by simp, by simp, .inr (K.stood t (cEq_stood hq hh)).2⟩
  obtain ⟨n1, n2, n3, n4, n5, n6⟩ := hne
  refine ⟨_, _, rfl, rfl, .bool _, ?_⟩
  have hg := eqGuard_none (w := w) (op := op) (x := ox) (y := oy) (d := d) n5 n6
  simp only [Sem.run_bind, hg, Result.andThen_ok]
  cases op <;> simp [isEqOp] at hop <;> subst hop
  · rw [binOp_eql t d n1 n2 n3 n4]; simp [hrun]
  · rw [binOp_neq t d n1 n2 n3 n4]; simp [hrun]

/-- the operators that only compute -/
theorem op_bin_ok {op : BinOp} {t : Nat} {x y : AX} {ox oy : Operand} {c d : Value} (hx : VRel σ (ev T x) c) (hy : VRel σ (ev T y) d) (ho : op_bin op x y T s = some (nx, s')) :
    ∃ v r, nx = .val v ∧ s' = s ∧ VRel σ v r ∧ (do eqGuard op t ox oy c d; binOp op t c d : Sem Value).run P w = .ok r w := by
  obtain ⟨v, hv, rfl, rfl⟩ := val?_inj ho
  obtain ⟨r, h1, h2, h3, h4⟩ := binA_ok (P := P) (w := w) hx hy t hv
  exact ⟨v, r, rfl, rfl, h1, by simp [eqGuard_none (P := P) (w := w) h3 (.inl h4), h2]⟩

end Go.Qa
end

/- Every operation, in one law. -/
section
namespace Go.Qa
variable {P : Program} {C : Ctx} {σ : Sig} {T : Tmps} {a : Act} {s : St} {w : World} {nx : ANext} {s' : St}

theorem run_places (K : CtxOk C P) : ∀ (fs : List Field), sizesOk C.I fs = true → ∃ ps : List (Nat × Nat), (∀ w, (fs.mapM (fun f => do pure (f.offset, ← sizeOf f.type)) : Sem (List (Nat × Nat))).run P w = .ok ps w) ∧
    ∀ (i : Nat) (f : Field) (n : Nat), fs[i]? = some f → C.I.size f.type = some n → ps[i]? = some (f.offset, n)
  | [], _ => ⟨[], fun w => by simp, fun i f n h => by simp at h⟩
  | f :: fs, h => by
    simp only [sizesOk] at h
    split at h
    · rename_i n hn
      obtain ⟨ps, h1, h2⟩ := run_places K fs h
      refine ⟨(f.offset, n) :: ps, fun w => ?_, fun i g m hi hm => ?_⟩
      · rw [List.mapM_cons]
        simp [K.run_size hn]
        have := h1 w
        simp at this
        rw [this]; rfl
      · cases i with
        | zero => simp at hi; subst hi; rw [hn] at hm; injection hm with hm; subst hm; rfl
        | succ i => simpa using h2 i g m (by simpa using hi) hm
    · cases h

theorem toList_eta {α : Type} (l : Array α) : (⟨l.toList⟩ : Array α) = l := rfl

theorem op_build_struct (K : CtxOk C P) (h : HRel C σ s.get w) (G : GOk C σ) (ht : TRel σ T a.tmps) {t : Nat} {z : AV} {fs : List Field} {ps : Array (Nat × Operand)} {l : List (Nat × Nat × AX)} (hz : C.I.zero t = some z) (hu : C.I.under t = some (.struct ⟨fs⟩))
    (hl : cPartsS C fs ps.toList = some l) (hsz : sizesOk C.I fs = true) (ho : op_build z.cells l T s = some (nx, s')) :
    ∃ v r, nx = .val v ∧ s' = s ∧ VRel σ v r ∧ (Instr.build t (ps.map fun (i, x) => (i, a.eval x))).run P w = .ok r w := by
  obtain ⟨zv, hzv, hzr⟩ := K.run_zero hz
  obtain ⟨places, hp1, hp2⟩ := run_places K fs hsz
  have hparts := cPartsS_ok (places := places.toArray) K G ht (fun i f n h1 h2 => by simpa using hp2 i f n h1 h2) hl
  obtain ⟨v, rc, h1, h2, h3, h4⟩ := op_build_ok (T := T) (cV_rel σ zv z hzv) hparts ho
  refine ⟨v, _, h1, h2, h3, ?_⟩
  have hps : (ps.map fun (i, x) => (i, a.eval x)).toList = ps.toList.map fun (i, x) => (i, a.eval x) := by simp
  have hm : ((⟨fs⟩ : Array Field).mapM (fun f => do pure (f.offset, ← sizeOf f.type)) : Sem (Array (Nat × Nat))).run P w = .ok places.toArray w := by
    rw [List.mapM_toArray]
    simp only [map_eq_pure_bind, Sem.run_bind, hp1, Result.andThen_ok, Sem.run_pure]
  unfold Instr.build
  simp only [Sem.run_bind, hzr, Result.andThen_ok, K.run_under hu, hm, hps]
  rw [h4]; rfl

theorem op_build_array (K : CtxOk C P) (h : HRel C σ s.get w) (G : GOk C σ) (ht : TRel σ T a.tmps) {t m e n : Nat} {z : AV} {ps : Array (Nat × Operand)} {l : List (Nat × Nat × AX)} (hz : C.I.zero t = some z) (hu : C.I.under t = some (.array m e)) (hs : C.I.size e = some n)
    (hl : cPartsA C n ps.toList = some l) (ho : op_build z.cells l T s = some (nx, s')) :
    ∃ v r, nx = .val v ∧ s' = s ∧ VRel σ v r ∧ (Instr.build t (ps.map fun (i, x) => (i, a.eval x))).run P w = .ok r w := by
  obtain ⟨zv, hzv, hzr⟩ := K.run_zero hz
  have hparts := cPartsA_ok (C := C) G ht hl
  obtain ⟨v, rc, h1, h2, h3, h4⟩ := op_build_ok (T := T) (cV_rel σ zv z hzv) hparts ho
  refine ⟨v, _, h1, h2, h3, ?_⟩
  have hps : (ps.map fun (i, x) => (i, a.eval x)).toList = ps.toList.map fun (i, x) => (i, a.eval x) := by simp
  unfold Instr.build
  simp only [Sem.run_bind, hzr, Result.andThen_ok, K.run_under hu, K.run_size hs, hps]
  rw [h4]; rfl

theorem op_buildS_ok' (K : CtxOk C P) (h : HRel C σ s.get w) (G : GOk C σ) (ht : TRel σ T a.tmps) {t e n len : Nat} {z : AV} {ps : Array (Nat × Operand)} {l : List (Nat × Nat × AX)} (hu : C.I.under t = some (.slice e)) (hs : C.I.size e = some n) (hz : C.I.zero e = some z)
    (hl : cPartsA C n ps.toList = some l) (hle : Nat.ble (len * n) 16777216 = true) (hzl : Nat.beq (llen z.cells) n = true) (hn : ∀ id, s.next ≤ id → id < s'.next → σ id = none) (ho : op_buildS e len (rep len z.cells) l T s = some (nx, s')) :
    ∃ v r σ' w', nx = .val v ∧ Post C σ s w σ' s' w' ∧ VRel σ' v r ∧ (Instr.buildSlice t len (ps.map fun (i, x) => (i, a.eval x))).run P w = .ok r w' := by
  obtain ⟨zv, hzv, hzr⟩ := K.run_zero hz
  rw [beq_iff, llen_eq] at hzl
  have hzl := of_decide_eq_true hzl
  rw [ble_iff] at hle
  have hle := of_decide_eq_true hle
  have hparts := cPartsA_ok (C := C) G ht hl
  obtain ⟨v, c, σ', w', rc, h1, h2, h3, h4, h5, h6⟩ := op_buildS_ok (el := e) (T := T) h (cV_rel σ zv z hzv) hzl hparts hn ho
  refine ⟨v, c, σ', w', h1, h2, h3, ?_⟩
  have hps : (ps.map fun (i, x) => (i, a.eval x)).toList = ps.toList.map fun (i, x) => (i, a.eval x) := by simp
  have hbig : ¬ (len * n > 2 ^ 24) := by
    have : (2 : Nat) ^ 24 = 16777216 := by decide
    omega
  subst h5; subst h4
  unfold Instr.buildSlice
  simp only [Sem.run_bind, K.run_under hu, Result.andThen_ok, K.run_size hs, hps]
  rw [if_neg hbig]
  by_cases h0 : len * n = 0
  · have hr0 : ∀ g : Nat → Value, (Array.range (len * n)).map g = #[] := fun g => by rw [h0]; simp
    rw [hr0] at h6
    rw [if_pos h0]
    simp only [Sem.run_bind, Sem.run_pure, Result.andThen_ok, hr0]
    rw [h6]; rfl
  · rw [if_neg h0]
    simp only [Sem.run_bind, Sem.run_pure, Result.andThen_ok, hzr]
    rw [h6]; rfl

theorem pair_inj {α β : Type} {a c : α} {b d : β} (h : (a, b) = (c, d)) : a = c ∧ b = d := by injection h with h1 h2; exact ⟨h1, h2⟩

end Go.Qa
end

/- 'execOp', whole. -/
section
namespace Go.Qa
variable {P : Program} {C : Ctx} {σ : Sig} {T : Tmps} {a : Act} {s : St} {w : World} {nx : ANext} {s' : St}

theorem evs_append (T : Tmps) (x y : List AX) : evs T (x ++ y) = evs T x ++ evs T y := by
  induction x with
  | nil => rfl
  | cons a l ih => simp [evs, ih]

theorem call_ok (G : GOk C σ) (ht : TRel σ T a.tmps) {f : Operand} {as : List Operand} {f' : AX} {as' : List AX} (hf : cX C f = some f') (has : cXs C as = some as') {ty : Nat} {at_ : Array Nat}
    (ho : op_call f' as' T s = some (nx, s')) : OpOut C P σ s w ((do let d ← resolve a.eval { callee := .value f, args := ⟨as⟩, argTypes := at_ } ty; invoke d.target d.args : Sem Next).run P w) nx s' := by
  have hcf := cX_rel (a := a) G ht hf
  have hca := cXs_rel (a := a) G ht has
  unfold op_call at ho
  split at ho <;> first | (cases ho; done) | skip
  · rename_i g first captured hex
    rw [hex] at hcf
    injection ho with ho; obtain ⟨rfl, rfl⟩ := pair_inj ho
    generalize hv : a.eval f = cf at hcf
    cases hcf with
    | func _ _ _ c1 c2 r1 r2 =>
      refine .enter g _ (c1 ++ (⟨as⟩ : Array Operand).map a.eval ++ c2) ?_ ?_
      · simp only [Array.toList_append, Array.toList_map]
        exact (r1.append hca).append r2
      · simp [resolve, hv, Deferred.ofValue, invoke]
  · rename_i l hex
    rw [hex] at hcf
    injection ho with ho; obtain ⟨rfl, rfl⟩ := pair_inj ho
    generalize hv : a.eval f = cf at hcf
    cases hcf with
    | yield _ p hp =>
      refine .round l _ ((⟨as⟩ : Array Operand).map a.eval) p hp ?_ ?_
      · simp only [Array.toList_map]; exact hca
      · simp [resolve, hv, Deferred.ofValue, invoke]

theorem orelx_none {c : Option Value} (h : ORelX σ T none c) : c = none := by
  cases c with
  | none => rfl
  | some d => exact h.elim
theorem slice_hmh {sz : Option Nat} {hi mx : Option AX} {g : Nat → AOp} {b : AOp} (hc : (match sz, mx, hi with
      | some _, some _, none => none
      | some n, _, _ => some (g n)
      | _, _, _ => none) = some b) : hi = none → mx = none := by
  intro hh
  subst hh
  cases mx with
  | none => rfl
  | some m => cases sz <;> simp at hc

set_option maxHeartbeats 1600000 in
theorem exec_ok (K : CtxOk C P) (G : GOk C σ) (ht : TRel σ T a.tmps) (h : HRel C σ s.get w) (o : Oper) {b : AOp} (hc : cOp C o.op = some b) (hn : ∀ id, s.next ≤ id → id < s'.next → σ id = none) (ho : opA b T s = some (nx, s')) :
    OpOut C P σ s w ((execOp a.eval o).run P w) nx s' := by
  obtain ⟨dst, op, type, pos, after, guard⟩ := o
  simp only at hc
  unfold cOp at hc
  split at hc
  · -- move
    split at hc <;> first | (cases hc; done) | skip
    rename_i hx; injection hc with hc; subst hc
    obtain ⟨rfl, rfl⟩ := val_inj ho
    exact .pure_ h (cX_rel G ht hx) rfl
  · split at hc <;> first | (cases hc; done) | skip
    rename_i hx; injection hc with hc; subst hc
    obtain ⟨rfl, rfl⟩ := val_inj ho
    exact .pure_ h (cX_rel G ht hx) rfl
  · -- pick
    split at hc <;> first | (cases hc; done) | skip
    rename_i h1 h2 h3; injection hc with hc; subst hc
    obtain ⟨v, r, rfl, rfl, hv, t, e1, e2⟩ := op_pick_ok (cX_rel (a := a) G ht h1) (cX_rel (a := a) G ht h2) (cX_rel (a := a) G ht h3) ho
    refine .pure_ h hv ?_
    simp [execOp, e1, asBool, e2]
  · -- alloc
    split at hc <;> first | (cases hc; done) | skip
    rename_i z hz; injection hc with hc; subst hc
    obtain ⟨v, c, σ', w', h1, h2, h3, h4⟩ := op_new_ok (T := T) K h hz hn ho
    exact out_new ⟨v, c, σ', w', h1, h2, h3, h4⟩
  · -- box
    split at hc <;> first | (cases hc; done) | skip
    rename_i hx; injection hc with hc; subst hc
    exact out_new (op_box_ok h (cX_rel (a := a) G ht hx) hn ho)
  · -- build
    split at hc <;> first | (cases hc; done) | skip
    · rename_i z fs hz hu
      split at hc <;> first | (cases hc; done) | skip
      rename_i l hl hsz
      injection hc with hc; subst hc
      exact out_same h (op_build_struct K h G ht hz hu hl hsz ho)
    · rename_i z m e hz hu
      split at hc <;> first | (cases hc; done) | skip
      rename_i n hs
      split at hc <;> first | (cases hc; done) | skip
      rename_i l hl
      injection hc with hc; subst hc
      exact out_same h (op_build_array K h G ht hz hu hs hl ho)
  · -- buildSlice
    split at hc <;> first | (cases hc; done) | skip
    rename_i e hu
    split at hc <;> first | (cases hc; done) | skip
    rename_i n z hs hz
    split at hc <;> first | (cases hc; done) | skip
    rename_i l hl h1 h2
    injection hc with hc; subst hc
    exact out_new (op_buildS_ok' K h G ht hu hs hz hl h1 h2 hn ho)
  · -- load
    split at hc <;> first | (cases hc; done) | skip
    rename_i h1 h2; injection hc with hc; subst hc
    exact out_same h (op_load_ok K h h1 (cX_rel (a := a) G ht h2) ho)
  · -- store
    split at hc <;> first | (cases hc; done) | skip
    rename_i h1 h2 h3; injection hc with hc; subst hc
    exact out_unit (op_store_ok K h h1 (cX_rel (a := a) G ht h2) (cX_rel (a := a) G ht h3) ho)
  · -- nilCheck
    split at hc <;> first | (cases hc; done) | skip
    rename_i x _ hx; injection hc with hc; subst hc
    obtain ⟨v, rfl, rfl, hv, hh⟩ := op_nilck_ok (cX_rel (a := a) G ht hx) ho
    refine .pure_ h hv ?_
    rcases hh with ⟨ad, e⟩ | ⟨f, c1, c2, e⟩ | ⟨l, c1, c2, e⟩ <;> simp [execOp, e]
  · -- binOp
    split at hc <;> first | (cases hc; done) | skip
    rename_i op t x y yt _ _ x' y' h1 h2
    have hx := cX_rel (a := a) G ht h1
    have hy := cX_rel (a := a) G ht h2
    unfold cBin at hc
    split at hc
    · injection hc with hc; subst hc
      exact out_same h (op_bin_ok hx hy ho)
    · rename_i neg hop
      split at hc
      · injection hc with hc; subst hc
        exact out_same h (op_bin_ok hx hy ho)
      · injection hc with hc; subst hc
        exact out_same h (op_bin_ok hx hy ho)
      · rename_i hni hns
        split at hc <;> first | (cases hc; done) | skip
        rename_i q hq
        injection hc with hc; subst hc
        exact out_same h (op_eq_ok K h hop hq (fun k e => hni k e) (fun e => hns e) hx hy ho)
  · -- unOp
    split at hc <;> first | (cases hc; done) | skip
    rename_i hx; injection hc with hc; subst hc
    obtain ⟨v, hv, rfl, rfl⟩ := val?_inj ho
    obtain ⟨r, h1, h2⟩ := unA_ok (P := P) (w := w) (cX_rel (a := a) G ht hx) hv
    exact out_same h ⟨v, r, rfl, rfl, h1, h2⟩
  · -- convert
    split at hc <;> first | (cases hc; done) | skip
    rename_i h1 h2; injection hc with hc; subst hc
    exact out_new (op_conv_ok K h h1 (cX_rel (a := a) G ht h2) hn ho)
  · split at hc <;> first | (cases hc; done) | skip
    rename_i h1 h2; injection hc with hc; subst hc
    exact out_same h (op_s2ap_ok K h1 (cX_rel (a := a) G ht h2) ho)
  · -- makeFunc
    split at hc <;> first | (cases hc; done) | skip
    rename_i h1 h2; injection hc with hc; subst hc
    obtain ⟨rfl, rfl⟩ := val_inj ho
    refine .pure_ h (.func _ _ _ _ _ ?_ ?_) rfl
    · simpa using cXs_rel (a := a) G ht h1
    · simpa using cXs_rel (a := a) G ht h2
  · injection hc with hc; subst hc
    exact out_new (op_mkmap_ok (T := T) h hn ho)
  · split at hc <;> first | (cases hc; done) | skip
    rename_i h1 h2 h3
    split at hc <;> first | (cases hc; done) | skip
    rename_i h4 h5 h6
    injection hc with hc; subst hc
    exact out_new (op_mksl_ok K h h1 h4 h5 h6 (cX_rel (a := a) G ht h2) (cX_rel (a := a) G ht h3) hn ho)
  · -- slice
    split at hc <;> first | (cases hc; done) | skip
    · rename_i h1 h2 h3 h4 h5
      injection hc with hc; subst hc
      have hm := cXO_rel (a := a) G ht h5
      obtain ⟨v, r, g1, g2, g3, g4⟩ := op_slStr_ok (P := P) (w := w) K h1 (cX_rel (a := a) G ht h2) (cXO_rel (a := a) G ht h3) (cXO_rel (a := a) G ht h4) ho
      refine out_same h ⟨v, r, g1, g2, g3, ?_⟩
      rw [orelx_none hm]
      exact g4
    · rename_i e x' lo' hi' mx' h1 h2 h3 h4 h5
      have hmh := slice_hmh hc
      split at hc <;> first | (cases hc; done) | skip
      rename_i hs _
      injection hc with hc; subst hc
      exact out_same h (op_slSl_ok K h h1 hs (cX_rel (a := a) G ht h2) (cXO_rel (a := a) G ht h3) (cXO_rel (a := a) G ht h4) (cXO_rel (a := a) G ht h5) hmh ho)
    · rename_i n e x' lo' hi' mx' h1 h2 h3 h4 h5
      have hmh := slice_hmh hc
      split at hc <;> first | (cases hc; done) | skip
      rename_i hs _
      injection hc with hc; subst hc
      exact out_same h (op_slArr_ok K (.inl h1) hs (cX_rel (a := a) G ht h2) (cXO_rel (a := a) G ht h3) (cXO_rel (a := a) G ht h4) (cXO_rel (a := a) G ht h5) hmh ho)
    · rename_i q x' lo' hi' mx' h1 h2 h3 h4 h5
      split at hc <;> first | (cases hc; done) | skip
      rename_i n e h6
      have hmh := slice_hmh hc
      split at hc <;> first | (cases hc; done) | skip
      rename_i hs _
      injection hc with hc; subst hc
      exact out_same h (op_slArr_ok K (.inr ⟨q, h1, h6⟩) hs (cX_rel (a := a) G ht h2) (cXO_rel (a := a) G ht h3) (cXO_rel (a := a) G ht h4) (cXO_rel (a := a) G ht h5) hmh ho)
  · -- fieldAddr
    split at hc <;> first | (cases hc; done) | skip
    rename_i fs x' h1 h2
    split at hc <;> first | (cases hc; done) | skip
    rename_i f hf
    split at hc <;> first | (cases hc; done) | skip
    rename_i n hsz
    injection hc with hc; subst hc
    rw [fieldOf_eq] at hf
    exact out_same h (op_faddr_ok K h1 hf hsz (cX_rel (a := a) G ht h2) ho)
  · -- field
    split at hc <;> first | (cases hc; done) | skip
    rename_i fs x' h1 h2
    split at hc <;> first | (cases hc; done) | skip
    rename_i f hf
    split at hc <;> first | (cases hc; done) | skip
    rename_i n hsz
    injection hc with hc; subst hc
    rw [fieldOf_eq] at hf
    exact out_same h (op_field_ok K h1 hf hsz (cX_rel (a := a) G ht h2) ho)
  · -- indexAddr
    split at hc <;> first | (cases hc; done) | skip
    · rename_i h1 h2 h3
      split at hc <;> first | (cases hc; done) | skip
      rename_i hs
      injection hc with hc; subst hc
      exact out_same h (op_iaddrA_ok K h1 hs (cX_rel (a := a) G ht h2) (cX_rel (a := a) G ht h3) ho)
    · rename_i h1 h2 h3
      split at hc <;> first | (cases hc; done) | skip
      rename_i hs
      injection hc with hc; subst hc
      exact out_same h (op_iaddrS_ok K h1 hs (cX_rel (a := a) G ht h2) (cX_rel (a := a) G ht h3) ho)
  · -- index
    split at hc <;> first | (cases hc; done) | skip
    · rename_i h1 h2 h3
      split at hc <;> first | (cases hc; done) | skip
      rename_i hs hag
      injection hc with hc; subst hc
      exact out_same h (op_indexA_ok K h1 hs hag (cX_rel (a := a) G ht h2) (cX_rel (a := a) G ht h3) ho)
    · rename_i h1 h2 h3
      injection hc with hc; subst hc
      exact out_same h (op_indexS_ok K h1 (cX_rel (a := a) G ht h2) (cX_rel (a := a) G ht h3) ho)
  · -- lookup
    split at hc <;> first | (cases hc; done) | skip
    rename_i h1 h2 h3
    split at hc <;> first | (cases hc; done) | skip
    rename_i q z hq hz
    split at hc <;> first | (cases hc; done) | skip
    injection hc with hc; subst hc
    exact out_same h (op_lookup_ok K h h1 hq hz (cX_rel (a := a) G ht h2) (cX_rel (a := a) G ht h3) _ ho)
  · -- mapUpdate
    split at hc <;> first | (cases hc; done) | skip
    rename_i h1 h2 h3 h4
    split at hc <;> first | (cases hc; done) | skip
    rename_i q hq
    injection hc with hc; subst hc
    exact out_unit (op_mapup_ok K h h1 hq (cX_rel (a := a) G ht h2) (cX_rel (a := a) G ht h3) (cX_rel (a := a) G ht h4) ho)
  · -- extract
    split at hc <;> first | (cases hc; done) | skip
    rename_i h1; injection hc with hc; subst hc
    exact out_same h (op_extract_ok (cX_rel (a := a) G ht h1) ho)
  · -- call
    split at hc <;> first | (cases hc; done) | skip
    rename_i h1 h2; injection hc with hc; subst hc
    exact call_ok G ht h1 h2 ho
  · -- a builtin
    rename_i bi as ts
    have := builtin_ok K G ht h (ty := type) (cs := (⟨as⟩ : Array Operand).map fun | .const _ => true | _ => false) hc hn ho
    have e : execOp a.eval ⟨dst, .call ⟨.builtin bi, ⟨as⟩, ⟨ts⟩⟩, type, pos, after, guard⟩ = builtin bi ⟨ts⟩ type ((⟨as⟩ : Array Operand).map fun | .const _ => true | _ => false) ((⟨as⟩ : Array Operand).map a.eval) := rfl
    rw [e]
    have e2 : (as.map a.eval).toArray = (⟨as⟩ : Array Operand).map a.eval := by simp
    rw [e2] at this
    exact this
  · cases hc

end Go.Qa
end

/- The abstract machine by itself: what an operation reads of the temporaries; what a run leaves alone. -/
section
namespace Go.Qa

/-! ### An operation reads the temporaries that it names -/
section
variable {T T' : Tmps}
theorem ev_congr {x : AX} (h : ∀ t ∈ xN x, T.get t = T'.get t) : ev T x = ev T' x := by
  cases x with
  | t i => exact h i (by simp [xN])
  | k v => rfl
theorem evs_congr : ∀ {l : List AX}, (∀ t ∈ xNs l, T.get t = T'.get t) → evs T l = evs T' l
  | [], _ => rfl
  | x :: l, h => by
    simp only [evs]
    rw [ev_congr fun t ht => h t (by simp [xNs, ht]), evs_congr fun t ht => h t (by simp [xNs, ht])]
theorem evParts_congr : ∀ {l : List (Nat × Nat × AX)}, (∀ t ∈ xNp l, T.get t = T'.get t) → evParts T l = evParts T' l
  | [], _ => rfl
  | (_, _, x) :: l, h => by
    simp only [evParts]
    rw [ev_congr fun t ht => h t (by simp [xNp, ht]), evParts_congr fun t ht => h t (by simp [xNp, ht])]
theorem bound_congr {x : Option AX} (h : ∀ t ∈ xNo x, T.get t = T'.get t) (d top : Nat) : bound? x T d top = bound? x T' d top := by
  cases x with
  | none => rfl
  | some x => simp only [bound?]; rw [ev_congr h]

theorem opA_congr {b : AOp} (h : ∀ t ∈ namesA b, T.get t = T'.get t) (s : St) : opA b T s = opA b T' s := by
  cases b
  case mv x => simp only [opA, op_mv]; rw [ev_congr h]
  case pick c a b =>
    simp only [opA, op_pick]
    rw [ev_congr fun t ht => h t (by simp [namesA, ht]), ev_congr (x := a) fun t ht => h t (by simp [namesA, ht]), ev_congr (x := b) fun t ht => h t (by simp [namesA, ht])]
  case new => rfl
  case box e x => simp only [opA, op_box]; rw [ev_congr h]
  case build z l => simp only [opA, op_build]; rw [evParts_congr h]
  case buildS e n z l => simp only [opA, op_buildS]; rw [evParts_congr h]
  case load x => simp only [opA, op_load]; rw [ev_congr h]
  case store n x v =>
    simp only [opA, op_store]
    rw [ev_congr (x := x) fun t ht => h t (by simp [namesA, ht]), ev_congr (x := v) fun t ht => h t (by simp [namesA, ht])]
  case nilck x => simp only [opA, op_nilck]; rw [ev_congr h]
  case un x => simp only [opA, op_un]; rw [ev_congr h]
  case conv x => simp only [opA, op_conv]; rw [ev_congr h]
  case s2ap x => simp only [opA, op_s2ap]; rw [ev_congr h]
  case mkfn f x y =>
    simp only [opA, op_mkfn]
    rw [evs_congr (l := x) fun t ht => h t (by simp [namesA, ht]), evs_congr (l := y) fun t ht => h t (by simp [namesA, ht])]
  case mkmap => rfl
  case slStr x lo hi =>
    simp only [opA, op_slStr]
    have b1 := fun d top => bound_congr (x := lo) (T := T) (T' := T') (fun t ht => h t (by simp [namesA, ht])) d top
    have b2 := fun d top => bound_congr (x := hi) (T := T) (T' := T') (fun t ht => h t (by simp [namesA, ht])) d top
    rw [ev_congr (x := x) fun t ht => h t (by simp [namesA, ht])]
    simp only [b1, b2]
  case slSl e x lo hi mx =>
    simp only [opA, op_slSl]
    have b1 := fun d top => bound_congr (x := lo) (T := T) (T' := T') (fun t ht => h t (by simp [namesA, ht])) d top
    have b2 := fun d top => bound_congr (x := hi) (T := T) (T' := T') (fun t ht => h t (by simp [namesA, ht])) d top
    have b3 := fun d top => bound_congr (x := mx) (T := T) (T' := T') (fun t ht => h t (by simp [namesA, ht])) d top
    rw [ev_congr (x := x) fun t ht => h t (by simp [namesA, ht])]
    simp only [b1, b2, b3]
  case slArr n e x lo hi mx =>
    simp only [opA, op_slArr]
    have b1 := fun d top => bound_congr (x := lo) (T := T) (T' := T') (fun t ht => h t (by simp [namesA, ht])) d top
    have b2 := fun d top => bound_congr (x := hi) (T := T) (T' := T') (fun t ht => h t (by simp [namesA, ht])) d top
    have b3 := fun d top => bound_congr (x := mx) (T := T) (T' := T') (fun t ht => h t (by simp [namesA, ht])) d top
    rw [ev_congr (x := x) fun t ht => h t (by simp [namesA, ht])]
    simp only [b1, b2, b3]
  case faddr x => simp only [opA, op_faddr]; rw [ev_congr h]
  case field x => simp only [opA, op_field]; rw [ev_congr h]
  case extract x i => simp only [opA, op_extract]; rw [ev_congr h]
  case mapup q m k v =>
    simp only [opA, op_mapup]
    rw [ev_congr (x := m) fun t ht => h t (by simp [namesA, ht]), ev_congr (x := k) fun t ht => h t (by simp [namesA, ht]), ev_congr (x := v) fun t ht => h t (by simp [namesA, ht])]
  case call f l =>
    simp only [opA, op_call]
    rw [ev_congr (x := f) fun t ht => h t (by simp [namesA, ht]), evs_congr (l := l) fun t ht => h t (by simp [namesA, ht])]
  case lenS x => simp only [opA, op_lenS]; rw [ev_congr h]
  case lenStr x => simp only [opA, op_lenStr]; rw [ev_congr h]
  case lenA => rfl
  case lenM x => simp only [opA, op_lenM]; rw [ev_congr h]
  case capS x => simp only [opA, op_capS]; rw [ev_congr h]
  case clearM x => simp only [opA, op_clearM]; rw [ev_congr h]
  case clearS e z x => simp only [opA, op_clearS]; rw [ev_congr h]
  case sdata x => simp only [opA, op_sdata]; rw [ev_congr h]
  case bad => rfl
  case bin op x y => simp only [opA, op_bin]; rw [ev_congr (x := x) fun t ht => h t (by simp [namesA, ht]), ev_congr (x := y) fun t ht => h t (by simp [namesA, ht])]
  case eq n q x y => simp only [opA, op_eq]; rw [ev_congr (x := x) fun t ht => h t (by simp [namesA, ht]), ev_congr (x := y) fun t ht => h t (by simp [namesA, ht])]
  case mksl e b z c x y => simp only [opA, op_mksl]; rw [ev_congr (x := x) fun t ht => h t (by simp [namesA, ht]), ev_congr (x := y) fun t ht => h t (by simp [namesA, ht])]
  case iaddrA n e x y => simp only [opA, op_iaddrA]; rw [ev_congr (x := x) fun t ht => h t (by simp [namesA, ht]), ev_congr (x := y) fun t ht => h t (by simp [namesA, ht])]
  case iaddrS e x y => simp only [opA, op_iaddrS]; rw [ev_congr (x := x) fun t ht => h t (by simp [namesA, ht]), ev_congr (x := y) fun t ht => h t (by simp [namesA, ht])]
  case indexA n e z x y => simp only [opA, op_indexA]; rw [ev_congr (x := x) fun t ht => h t (by simp [namesA, ht]), ev_congr (x := y) fun t ht => h t (by simp [namesA, ht])]
  case indexS x y => simp only [opA, op_indexS]; rw [ev_congr (x := x) fun t ht => h t (by simp [namesA, ht]), ev_congr (x := y) fun t ht => h t (by simp [namesA, ht])]
  case lookup q z x y o => simp only [opA, op_lookup]; rw [ev_congr (x := x) fun t ht => h t (by simp [namesA, ht]), ev_congr (x := y) fun t ht => h t (by simp [namesA, ht])]
  case append e b n x y => simp only [opA, op_append]; rw [ev_congr (x := x) fun t ht => h t (by simp [namesA, ht]), ev_congr (x := y) fun t ht => h t (by simp [namesA, ht])]
  case appendZ e b n z x y => simp only [opA, op_appendZ]; rw [ev_congr (x := x) fun t ht => h t (by simp [namesA, ht]), ev_congr (x := y) fun t ht => h t (by simp [namesA, ht])]
  case copy e x y => simp only [opA, op_copy]; rw [ev_congr (x := x) fun t ht => h t (by simp [namesA, ht]), ev_congr (x := y) fun t ht => h t (by simp [namesA, ht])]
  case delete q x y => simp only [opA, op_delete]; rw [ev_congr (x := x) fun t ht => h t (by simp [namesA, ht]), ev_congr (x := y) fun t ht => h t (by simp [namesA, ht])]
  case min2 x y => simp only [opA, op_min2]; rw [ev_congr (x := x) fun t ht => h t (by simp [namesA, ht]), ev_congr (x := y) fun t ht => h t (by simp [namesA, ht])]
  case max2 x y => simp only [opA, op_max2]; rw [ev_congr (x := x) fun t ht => h t (by simp [namesA, ht]), ev_congr (x := y) fun t ht => h t (by simp [namesA, ht])]
  case ustr u x y => simp only [opA, op_ustr]; rw [ev_congr (x := x) fun t ht => h t (by simp [namesA, ht]), ev_congr (x := y) fun t ht => h t (by simp [namesA, ht])]
end

/-! ### What a run leaves alone -/
structure AStep (s s' : St) : Prop where
  next : s.next ≤ s'.next
  base : s'.base = s.base
  hid : s'.hid = s.hid
  wr : ∀ x ∈ s.wr, x ∈ s'.wr
  seen : ∀ x ∈ s'.wr, x ∈ s.wr ∨ hidden s.hid x = false
  low : ∀ x ∈ s'.wr, x ∈ s.wr ∨ (x < s.base ∧ x < s.next)
  same : ∀ id, id < s.base → id < s.next → id ∉ s'.wr → s'.heap.get id = s.heap.get id

theorem AStep.refl (s : St) : AStep s s := ⟨Nat.le_refl _, rfl, rfl, fun _ h => h, fun _ h => .inl h, fun _ h => .inl h, fun _ _ _ _ => rfl⟩
theorem AStep.trans {s s1 s2 : St} (a : AStep s s1) (b : AStep s1 s2) (hb : s.base ≤ s.next) : AStep s s2 where
  next := Nat.le_trans a.next b.next
  base := b.base.trans a.base
  hid := b.hid.trans a.hid
  wr := fun x h => b.wr x (a.wr x h)
  seen := fun x h => (b.seen x h).elim (a.seen x) (fun h => .inr (by rw [a.hid] at h; exact h))
  low := fun x h => (b.low x h).elim (a.low x) (fun h => .inr (by rw [a.base] at h; omega))
  same := fun id h1 h2 h3 => by
    rw [b.same id (by rw [a.base]; exact h1) (Nat.lt_of_lt_of_le h2 a.next) h3, a.same id h1 h2 (fun h => h3 (b.wr _ h))]

theorem get_lt {s : St} {id : Nat} (h : s.get id ≠ none) : id < s.next ∧ hidden s.hid id = false := by
  unfold St.get at h
  cases hl : Nat.blt id s.next with
  | false => rw [hl] at h; simp at h
  | true =>
    cases hh : hidden s.hid id with
    | true => rw [hl, hh] at h; simp at h
    | false => rw [blt_iff] at hl; exact ⟨of_decide_eq_true hl, rfl⟩
theorem mem_note {s : St} {id x : Nat} (h : x ∈ s.note id) : x ∈ s.wr ∨ (x = id ∧ id < s.base) := by
  unfold St.note at h
  split at h
  · rename_i hb
    rw [blt_iff] at hb
    split at h
    · exact .inl h
    · rcases List.mem_cons.1 h with e | e
      · exact .inr ⟨e, of_decide_eq_true hb⟩
      · exact .inl e
  · exact .inl h
theorem AStep.set {s : St} {id : Nat} (h : s.get id ≠ none) (o : AO) : AStep s (s.set id o) where
  next := Nat.le_refl _
  base := rfl
  hid := rfl
  wr := fun x hx => s.note_sub id x hx
  seen := fun x hx => (mem_note hx).elim .inl (fun e => .inr (by rw [e.1]; exact (get_lt h).2))
  low := fun x hx => (mem_note hx).elim .inl (fun e => .inr (by rw [e.1]; exact ⟨e.2, (get_lt h).1⟩))
  same := fun j h1 h2 h3 => by
    show (Tr.put _ _ _ _).get j = _
    rw [Tr.get_set]
    have : j ≠ id := fun e => h3 (by subst e; exact s.note_self j h1)
    rw [if_neg this]
theorem AStep.kill {s : St} {id : Nat} (h : s.get id ≠ none) : AStep s (s.kill id) where
  next := Nat.le_refl _
  base := rfl
  hid := rfl
  wr := fun x hx => s.note_sub id x hx
  seen := fun x hx => (mem_note hx).elim .inl (fun e => .inr (by rw [e.1]; exact (get_lt h).2))
  low := fun x hx => (mem_note hx).elim .inl (fun e => .inr (by rw [e.1]; exact ⟨e.2, (get_lt h).1⟩))
  same := fun j h1 h2 h3 => by
    show (Tr.put _ _ _ _).get j = _
    rw [Tr.get_set]
    have : j ≠ id := fun e => h3 (by subst e; exact s.note_self j h1)
    rw [if_neg this]
theorem AStep.new (s : St) (o : AO) : AStep s (s.new o) where
  next := Nat.le_succ _
  base := rfl
  hid := rfl
  wr := fun x hx => hx
  seen := fun x hx => .inl hx
  low := fun x hx => .inl hx
  same := fun j h1 h2 h3 => by
    show (Tr.put _ _ _ _).get j = _
    rw [Tr.get_set, if_neg (by omega)]

theorem val_st {v : AV} {s s' : St} {nx : ANext} (h : val v s = some (nx, s')) : s' = s := by
  unfold val at h; injection h with h; injection h with h1 h2; exact h2.symm
theorem val?_st {v : Option AV} {s s' : St} {nx : ANext} (h : val? v s = some (nx, s')) : s' = s := by
  unfold val? at h
  split at h
  · injection h with h; injection h with h1 h2; exact h2.symm
  · cases h
theorem some_st {α : Type} {v : α} {s s' : St} {nx : α} (h : some (v, s) = some (nx, s')) : s' = s := by
  injection h with h; injection h with h1 h2; exact h2.symm
theorem cells_ne {s : St} {id : Nat} {x : List AV × Nat × Bool} (h : s.cells id = some x) : s.get id ≠ none := by
  intro e
  unfold St.cells at h
  rw [e] at h
  cases h
theorem mapOf_ne {s : St} {v : AV} {id : Nat} {es : List (AV × AV)} (h : mapOf s v = some (id, es)) : s.get id ≠ none := by
  unfold mapOf at h
  split at h
  · split at h
    · rename_i hg; injection h with h; injection h with h1 h2; subst h1; rw [hg]; simp
    · cases h
  · cases h

theorem appendNew_step {s s' : St} {elem esz need : Nat} {c : List AV} {fz : Bool} {v : AV} (h : appendNew s elem esz c need fz = some (v, s')) : AStep s s' := by
  unfold appendNew at h
  split at h
  · have := some_st h; subst this; exact .new _ _
  · cases h
theorem appendA_step {s s' : St} {elem esz bytes n : Nat} {x v : AV} {new : List AV} (hb : s.base ≤ s.next) (h : appendA s elem esz bytes x new n = some (v, s')) : AStep s s' := by
  unfold appendA at h
  split at h
  · split at h <;> first | (cases h; done) | (have := some_st h; subst this; exact .refl _)
  · split at h
    · exact appendNew_step h
    · split at h
      · split at h <;> first | (cases h; done) | skip
        rename_i hcs
        split at h <;> first | (cases h; done) | skip
        split at h <;> first | (cases h; done) | skip
        have := some_st h; subst this
        exact .set (cells_ne hcs) _
      · split at h <;> first | (cases h; done) | skip
        exact appendNew_step h
    · split at h <;> first | (cases h; done) | skip
      rename_i hcs
      split at h <;> first | (cases h; done) | skip
      exact (AStep.kill (cells_ne hcs)).trans (appendNew_step h) hb
    · cases h
  · cases h

set_option maxHeartbeats 1600000 in
theorem opA_step {b : AOp} {T : Tmps} {s s' : St} {nx : ANext} (hb : s.base ≤ s.next) (ho : opA b T s = some (nx, s')) : AStep s s' := by
  cases b
  case append e z b x y =>
    simp only [opA, op_append] at ho
    split at ho <;> first | (cases ho; done) | skip
    split at ho <;> first | (cases ho; done) | skip
    split at ho <;> first | (cases ho; done) | skip
    rename_i happ
    have := val_st ho; subst this
    exact appendA_step hb happ
  case appendZ e z b zz x y =>
    simp only [opA, op_appendZ] at ho
    split at ho <;> first | (cases ho; done) | skip
    split at ho <;> first | (cases ho; done) | skip
    rename_i happ
    have := val_st ho; subst this
    exact appendA_step hb happ
  all_goals simp only [opA, op_mv, op_pick, op_new, op_box, op_build, op_buildS, op_load, op_store, op_nilck, op_bin, op_eq, op_un, op_conv, op_s2ap, op_mkfn, op_mkmap, op_mksl, op_slStr, op_slSl, op_slArr, op_faddr, op_field, op_iaddrA, op_iaddrS, op_indexA, op_indexS, op_lookup, op_mapup, op_extract, op_call, op_copy, op_lenS, op_lenStr, op_lenA, op_lenM, op_capS, op_clearM, op_clearS, op_delete, op_min2, op_max2, op_sdata, op_ustr] at ho
  all_goals (repeat' split at ho)
  all_goals first
    | (cases ho; done)
    | (have := val_st ho; subst this; first | exact .refl _ | exact .new _ _ | exact .set (cells_ne (by assumption)) _ | exact .set (mapOf_ne (by assumption)) _ | exact .kill (cells_ne (by assumption)))
    | (have := val?_st ho; subst this; exact .refl _)
    | (have := some_st ho; subst this; first | exact .refl _ | exact .set (cells_ne (by assumption)) _ | exact .set (mapOf_ne (by assumption)) _)

end Go.Qa
end

/- What a run leaves alone: calls, rounds, whole codes. -/
section
namespace Go.Qa

theorem mem_noteAll (s : St) (x : Nat) : ∀ l : List Nat, x ∈ noteAll s l ↔ x ∈ s.wr ∨ (x ∈ l ∧ x < s.base)
  | [] => by simp [noteAll]
  | y :: l => by
    have ih := mem_noteAll s x l
    simp only [noteAll, blt_iff]
    by_cases hb : y < s.base
    · rw [decide_eq_true hb]
      simp only
      cases hm : memN (noteAll s l) y with
      | true =>
        simp only
        rw [ih]
        have hy := (mem_noteAll s y l).1 ((memN_iff _ _).1 hm)
        constructor
        · rintro (h | h)
          · exact .inl h
          · exact .inr ⟨List.mem_cons_of_mem _ h.1, h.2⟩
        · rintro (h | ⟨h1, h2⟩)
          · exact .inl h
          · rcases List.mem_cons.1 h1 with e | e
            · subst e; exact hy
            · exact .inr ⟨e, h2⟩
      | false =>
        simp only [List.mem_cons]
        rw [ih]
        constructor
        · rintro (h | h | h)
          · subst h; exact .inr ⟨.inl rfl, hb⟩
          · exact .inl h
          · exact .inr ⟨.inr h.1, h.2⟩
        · rintro (h | ⟨h1 | h1, h2⟩)
          · exact .inr (.inl h)
          · exact .inl h1
          · exact .inr (.inr ⟨h1, h2⟩)
    · rw [decide_eq_false hb]
      simp only [List.mem_cons]
      rw [ih]
      constructor
      · rintro (h | h)
        · exact .inl h
        · exact .inr ⟨.inr h.1, h.2⟩
      · rintro (h | ⟨h1 | h1, h2⟩)
        · exact .inl h
        · subst h1; exact absurd h2 hb
        · exact .inr ⟨h1, h2⟩

theorem AStep.sub {s s1 : St} {h : List (Nat × Nat)} (a : AStep ⟨s.heap, s.next, s.next, [], h⟩ s1) (hh : ∀ x, hidden h x = false → hidden s.hid x = false) : AStep s ⟨s1.heap, s1.next, s.base, noteAll s s1.wr, s.hid⟩ where
  next := a.next
  base := rfl
  hid := rfl
  wr := fun x hx => (mem_noteAll s x _).2 (.inl hx)
  seen := fun x hx => ((mem_noteAll s x _).1 hx).imp id (fun e => hh x (by
    rcases a.seen x e.1 with h | h
    · cases h
    · exact h))
  low := fun x hx => ((mem_noteAll s x _).1 hx).imp id (fun e => by
    rcases a.low x e.1 with h | h
    · cases h
    · exact ⟨e.2, h.2⟩)
  same := fun id h1 h2 h3 => a.same id h2 h2 (fun h => h3 ((mem_noteAll s id _).2 (.inr ⟨h, h1⟩)))

def CallStep (call : Call) : Prop := ∀ f args s v s', s.base ≤ s.next → call f args s = some (v, s') → AStep s s'
def RunStep (run : Run) : Prop := ∀ c T s e T' s', s.base ≤ s.next → run c T s = some (e, T', s') → AStep s s'

theorem AStep.le {s s' : St} (a : AStep s s') (h : s.base ≤ s.next) : s'.base ≤ s'.next := by rw [a.base]; exact Nat.le_trans h a.next

theorem callF_step {prog : Nat → Option AFun} {run : Run} (hr : RunStep run) : CallStep (callF prog run) := by
  intro f args s v s' hb h
  unfold callF at h
  split at h <;> first | (cases h; done) | skip
  split at h <;> first | (cases h; done) | skip
  all_goals
    rename_i hrun
    split at h <;> first | (cases h; done) | skip
    have := some_st h; subst this
    exact (hr _ _ _ _ _ _ (Nat.le_refl _) hrun).sub (fun _ h => h)

theorem doOp_step {call round : Call} (hc : CallStep call) (hr : CallStep round) {o : AOp} {T : Tmps} {s s' : St} {v : AV} (hb : s.base ≤ s.next) (h : doOp call round o T s = some (v, s')) : AStep s s' := by
  unfold doOp at h
  split at h <;> first | (cases h; done) | skip
  · rename_i ho
    have := some_st h; subst this
    exact opA_step hb ho
  · rename_i ho
    have a := opA_step hb ho
    exact a.trans (hc _ _ _ _ _ (a.le hb) h) hb
  · rename_i ho
    have a := opA_step hb ho
    exact a.trans (hr _ _ _ _ _ (a.le hb) h) hb

theorem runOps_step {call round : Call} (hc : CallStep call) (hr : CallStep round) : ∀ {l : List AOper} {T T' : Tmps} {s s' : St}, s.base ≤ s.next → runOps call round l T s = some (T', s') → AStep s s'
  | [], T, T', s, s', hb, h => by simp [runOps] at h; obtain ⟨_, rfl⟩ := h; exact .refl _
  | o :: l, T, T', s, s', hb, h => by
    simp only [runOps] at h
    split at h
    · exact runOps_step hc hr hb h
    · split at h <;> first | (cases h; done) | skip
      rename_i hd
      have a := doOp_step hc hr hb hd
      exact a.trans (runOps_step hc hr (a.le hb) h) hb

theorem hidden_cons {a b : Nat} {l : List (Nat × Nat)} {x : Nat} (h : hidden ((a, b) :: l) x = false) : hidden l x = false := by
  simp only [hidden] at h
  split at h
  · split at h
    · cases h
    · exact h
  · exact h
theorem hidden_hides {sofar : List Touch} {n : Nat} : ∀ {l : List Nat} {h : List (Nat × Nat)} {x : Nat}, hidden (hides sofar n l h) x = false → hidden h x = false
  | [], h, x, e => e
  | j :: l, h, x, e => by
    simp only [hides] at e
    split at e
    · split at e
      · exact hidden_hides e
      · exact hidden_hides (hidden_cons e)
    · exact hidden_hides e
theorem hidFor_sub {rd : Option (List Nat)} {sofar : List Touch} {n : Nat} {uno : List Nat} {s : St} {h : List (Nat × Nat)} (hh : hidFor rd sofar n uno s = some h) (x : Nat) (hx : hidden h x = false) : hidden s.hid x = false := by
  unfold hidFor at hh
  split at hh <;> first | (cases hh; done) | skip
  · injection hh with hh; subst hh; exact hidden_cons hx
  · injection hh with hh; subst hh; exact hidden_cons (hidden_cons hx)
  · injection hh with hh; subst hh; exact hidden_hides hx

theorem runOpsD_step {call round : Call} (hc : CallStep call) (hr : CallStep round) : ∀ {l : List AOper} {n : Nat} {sofar : List Touch} {T T' : Tmps} {s s' : St}, s.base ≤ s.next → runOpsD call round l n sofar T s = some (T', s') → AStep s s'
  | [], n, sofar, T, T', s, s', hb, h => by simp [runOpsD] at h; obtain ⟨_, rfl⟩ := h; exact .refl _
  | o :: l, n, sofar, T, T', s, s', hb, h => by
    simp only [runOpsD] at h
    split at h
    · exact runOpsD_step hc hr hb h
    · split at h <;> first | (cases h; done) | skip
      rename_i hh
      split at h <;> first | (cases h; done) | skip
      rename_i v s1 hd
      split at h <;> first | (cases h; done) | skip
      have a := (doOp_step hc hr (Nat.le_refl _) hd).sub (hidFor_sub hh)
      exact a.trans (runOpsD_step hc hr (a.le hb) h) hb

theorem roundF_step {run : Run} (hr : RunStep run) : CallStep (roundF run) := by
  intro l args s v s' hb h
  unfold roundF at h
  split at h <;> first | (cases h; done) | skip
  split at h <;> first | (cases h; done) | skip
  split at h <;> first | (cases h; done) | skip
  rename_i T1 s1 h1
  have a1 := hr _ _ _ _ _ _ hb h1
  split at h <;> first | (cases h; done) | skip
  rename_i r1 hg1
  split at h <;> first | (cases h; done) | skip
  simp only at h
  split at h <;> first | (cases h; done) | skip
  rename_i e T3 s3 h3
  split at h <;> first | (cases h; done) | skip
  rename_i r3 hg3
  have a2 : AStep s1 (s1.set l (.loop { r1 with busy := true })) := .set (by rw [hg1]; simp) _
  have a3 := hr _ _ _ _ _ _ (a2.le (a1.le hb)) h3
  have := some_st h; subst this
  exact ((a1.trans a2 hb).trans a3 hb).trans (.set (by rw [hg3]; simp) _) hb

theorem nativeA_step {k : NatK} {n : Nat} {x y v : AV} {s s' : St} (h : nativeA k n x y s = some (v, s')) : AStep s s' := by
  unfold nativeA at h
  split at h <;> first | (cases h; done) | skip
  unfold nativeB at h
  split at h <;> first | (cases h; done) | skip
  · split at h <;> first | (cases h; done) | (have := some_st h; subst this; exact .refl _)
  · split at h <;> first | (cases h; done) | (have := some_st h; subst this; exact .refl _)
  · have := some_st h; subst this; exact .refl _
  · have := some_st h; subst this; exact .refl _
  · split at h <;> first | (cases h; done) | skip
    have := some_st h; subst this; exact .new _ _

theorem trip_inj {α β γ : Type} {a a' : α} {b b' : β} {c c' : γ} (h : some (a, b, c) = some (a', b', c')) : a = a' ∧ b = b' ∧ c = c' := by
  injection h with h; injection h with h1 h; injection h with h2 h3; exact ⟨h1, h2, h3⟩

theorem AStep.killNew {s : St} {id : Nat} (h : ¬ id < s.base) : AStep s (s.kill id) where
  next := Nat.le_refl _
  base := rfl
  hid := rfl
  wr := fun x hx => s.note_sub id x hx
  seen := fun x hx => (mem_note hx).elim .inl (fun e => absurd e.2 h)
  low := fun x hx => (mem_note hx).elim .inl (fun e => absurd e.2 h)
  same := fun j h1 h2 h3 => by
    show (Tr.put _ _ _ _).get j = _
    rw [Tr.get_set, if_neg (by omega)]

theorem AStep.setNew {s : St} {id : Nat} (h : ¬ id < s.base) (o : AO) : AStep s (s.set id o) where
  next := Nat.le_refl _
  base := rfl
  hid := rfl
  wr := fun x hx => s.note_sub id x hx
  seen := fun x hx => (mem_note hx).elim .inl (fun e => absurd e.2 h)
  low := fun x hx => (mem_note hx).elim .inl (fun e => absurd e.2 h)
  same := fun j h1 h2 h3 => by
    show (Tr.put _ _ _ _).get j = _
    rw [Tr.get_set, if_neg (by omega)]

theorem mapIt_step {tail b : Bool} {n : Nat} {m : AV} {l : List (Nat × AV)} {s s' : St} (hb : s.base ≤ s.next) (h : mapIt tail n m s = some (b, l, s')) : AStep s s' := by
  have dead : AStep s ((s.new (.map [])).kill s.next) := (AStep.new s _).trans (.killNew (by show ¬ s.next < s.base; omega)) hb
  unfold mapIt at h
  split at h <;> first | (cases h; done) | skip
  split at h <;> first | (cases h; done) | skip
  split at h
  · split at h <;> first | (cases h; done) | skip
    · obtain ⟨_, _, rfl⟩ := trip_inj h; exact dead
    · obtain ⟨_, _, rfl⟩ := trip_inj h; exact dead
  · split at h <;> first | (cases h; done) | skip
    obtain ⟨_, _, rfl⟩ := trip_inj h; exact .refl _

theorem step_step {prog : Nat → Option AFun} {run : Run} (hr : RunStep run) : RunStep (step prog run) := by
  intro c T s e T' s' hb h
  unfold step at h
  split at h
  · obtain ⟨_, _, rfl⟩ := trip_inj h; exact .refl _
  · split at h
    · split at h <;> first | (cases h; done) | skip
      rename_i ho
      obtain ⟨_, _, rfl⟩ := trip_inj h
      exact runOps_step (callF_step hr) (roundF_step hr) hb ho
    · split at h <;> first | (cases h; done) | skip
      rename_i ho
      obtain ⟨_, _, rfl⟩ := trip_inj h
      exact runOpsD_step (callF_step hr) (roundF_step hr) hb ho
  · split at h <;> first | (cases h; done) | skip
    · rename_i h1
      have a := hr _ _ _ _ _ _ hb h1
      exact a.trans (hr _ _ _ _ _ _ (a.le hb) h) hb
    · rename_i h1
      obtain ⟨_, _, rfl⟩ := trip_inj h
      exact hr _ _ _ _ _ _ hb h1
  · split at h <;> first | (cases h; done) | exact hr _ _ _ _ _ _ hb h
  · split at h
    · rename_i h1
      split at h
      all_goals
        obtain ⟨_, _, rfl⟩ := trip_inj h
        exact hr _ _ _ _ _ _ hb h1
    · exact hr _ _ _ _ _ _ hb h
  · split at h
    · rename_i h1
      have a := hr _ _ _ _ _ _ hb h1
      exact a.trans (hr _ _ _ _ _ _ (a.le hb) h) hb
    · exact hr _ _ _ _ _ _ hb h
  · exact hr _ _ _ _ _ _ hb h
  · obtain ⟨_, _, rfl⟩ := trip_inj h; exact .refl _
  · obtain ⟨_, _, rfl⟩ := trip_inj h; exact .refl _
  · split at h <;> first | (cases h; done) | skip
    split at h <;> first | (cases h; done) | skip
    split at h <;> first | (cases h; done) | skip
    rename_i hcall
    split at h <;> first | (cases h; done) | skip
    rename_i r hg
    split at h <;> first | (cases h; done) | skip
    obtain ⟨_, _, rfl⟩ := trip_inj h
    have b := callF_step hr _ _ _ _ _ ((AStep.new s _).le hb) hcall
    exact ((AStep.new s _).trans b hb).trans (.kill (by rw [hg]; simp)) hb
  · split at h <;> first | (cases h; done) | skip
    all_goals
      rename_i hc
      obtain ⟨_, _, rfl⟩ := trip_inj h
      exact mapIt_step hb hc
  · split at h <;> first | (cases h; done) | skip
    rename_i hc
    obtain ⟨_, _, rfl⟩ := trip_inj h
    exact nativeA_step hc
  · cases h

theorem run_step (prog : Nat → Option AFun) : ∀ n, RunStep (run prog n)
  | 0 => fun _ _ _ _ _ _ _ h => by cases h
  | n + 1 => step_step (run_step prog n)

end Go.Qa
end

/- Regions: what an operation comes to, calls and rounds within; a region in the order of its text. -/
section
namespace Go.Qa
variable {P : Program} {C : Ctx} {F : Fence} {k : Nat}

structure FOk (F : Fence) : Prop where
  fn : ∀ f, F.fn f
  depth : F.depth = none

/-- what an operation comes to, calls and rounds within -/
def Comes (F : Fence) (k : Nat) (P : Program) (R : Value → World → Prop) : Result Next → Prop
  | .ok (.value c) w' => R c w'
  | .ok .skip w' => R Go.undef w'
  | .ok (.enter f args) w' => CallsIn F k P f args w' fun e w'' => ∃ c, e = .returned c ∧ R c w''
  | .ok (.round l f tmps assign body) w' => RoundIn F k P l f tmps assign body w' fun e w'' => ∃ c, e = .returned c ∧ R c w''
  | _ => False

def Good (C : Ctx) (σ : Sig) (s : St) (w : World) (s' : St) (v : AV) (c : Value) (w' : World) : Prop := ∃ σ', Post C σ s w σ' s' w' ∧ VRel σ' v c

/-- a call, as the abstract machine tells it -/
def CallOk (C : Ctx) (P : Program) (F : Fence) (call : Call) : Prop := ∀ f args s v s', call f args s = some (v, s') → ∀ (k : Nat) (σ : Sig) (w : World) (cargs : Array Value), s.base ≤ s.next → HRel C σ s.get w → GOk C σ → VRels σ args cargs.toList →
  (∀ id, s.next ≤ id → id < s'.next → σ id = none) → Comes F k P (Good C σ s w s' v) ((callFunc f cargs).run P w)
def RoundOk (C : Ctx) (P : Program) (F : Fence) (round : Round) : Prop := ∀ l args s v s', round l args s = some (v, s') → ∀ (k : Nat) (σ : Sig) (w : World) (cargs : Array Value) (p : Place), s.base ≤ s.next → HRel C σ s.get w → GOk C σ → σ l = some p → VRels σ args cargs.toList →
  (∀ id, s.next ≤ id → id < s'.next → σ id = none) → Comes F k P (Good C σ s w s' v) ((Instr.yield p.block cargs).run P w)

theorem opA_enter {b : AOp} {T : Tmps} {s s' : St} {f : Nat} {args : List AV} (ho : opA b T s = some (.enter f args, s')) : s' = s := by
  cases b
  case call g l =>
    simp only [opA, op_call] at ho
    split at ho <;> first | (cases ho; done) | exact some_st ho
  all_goals exfalso
  all_goals simp only [opA, op_mv, op_pick, op_new, op_box, op_build, op_buildS, op_load, op_store, op_nilck, op_bin, op_eq, op_un, op_conv, op_s2ap, op_mkfn, op_mkmap, op_mksl, op_slStr, op_slSl, op_slArr, op_faddr, op_field, op_iaddrA, op_iaddrS, op_indexA, op_indexS, op_lookup, op_mapup, op_extract, op_append, op_appendZ, op_copy, op_lenS, op_lenStr, op_lenA, op_lenM, op_capS, op_clearM, op_clearS, op_delete, op_min2, op_max2, op_sdata, op_ustr, val, val?] at ho
  all_goals (repeat' split at ho)
  all_goals first | (cases ho; done) | (simp at ho; done)
theorem opA_round {b : AOp} {T : Tmps} {s s' : St} {f : Nat} {args : List AV} (ho : opA b T s = some (.round f args, s')) : s' = s := by
  cases b
  case call g l =>
    simp only [opA, op_call] at ho
    split at ho <;> first | (cases ho; done) | exact some_st ho
  all_goals exfalso
  all_goals simp only [opA, op_mv, op_pick, op_new, op_box, op_build, op_buildS, op_load, op_store, op_nilck, op_bin, op_eq, op_un, op_conv, op_s2ap, op_mkfn, op_mkmap, op_mksl, op_slStr, op_slSl, op_slArr, op_faddr, op_field, op_iaddrA, op_iaddrS, op_indexA, op_indexS, op_lookup, op_mapup, op_extract, op_append, op_appendZ, op_copy, op_lenS, op_lenStr, op_lenA, op_lenM, op_capS, op_clearM, op_clearS, op_delete, op_min2, op_max2, op_sdata, op_ustr, val, val?] at ho
  all_goals (repeat' split at ho)
  all_goals first | (cases ho; done) | (simp at ho; done)

theorem doOp_ok {call round : Call} (K : CtxOk C P) (hc : CallOk C P F call) (hr : RoundOk C P F round) {T : Tmps} {a : Act} {s s' : St} {w : World} {σ : Sig} (hb : s.base ≤ s.next) (G : GOk C σ) (ht : TRel σ T a.tmps) (h : HRel C σ s.get w) (o : Oper) {b : AOp} (hco : cOp C o.op = some b) {v : AV}
    (hn : ∀ id, s.next ≤ id → id < s'.next → σ id = none) (ho : doOp call round b T s = some (v, s')) : Comes F k P (Good C σ s w s' v) ((execOp a.eval o).run P w) := by
  unfold doOp at ho
  split at ho <;> first | (cases ho; done) | skip
  · rename_i v0 s0 hop
    injection ho with ho; obtain ⟨rfl, rfl⟩ := pair_inj ho
    have := exec_ok K G ht h o hco hn hop
    generalize (execOp a.eval o).run P w = r at this ⊢
    cases this with
    | val _ c _ σ' w' hp hv hr =>
      rcases hr with rfl | ⟨rfl, rfl⟩
      · exact ⟨σ', hp, hv⟩
      · exact ⟨σ', hp, hv⟩
  · rename_i f args s0 hop
    have := opA_enter hop; subst this
    have := exec_ok (P := P) (w := w) K G ht h o hco (fun id h1 h2 => absurd h2 (by omega)) hop
    generalize (execOp a.eval o).run P w = r at this ⊢
    cases this with
    | enter _ _ cargs hv hr => rw [hr]; exact hc _ _ _ _ _ ho k σ w cargs hb h G hv hn
  · rename_i l args s0 hop
    have := opA_round hop; subst this
    have := exec_ok (P := P) (w := w) K G ht h o hco (fun id h1 h2 => absurd h2 (by omega)) hop
    generalize (execOp a.eval o).run P w = r at this ⊢
    cases this with
    | round _ _ cargs p hp hv hrr => rw [hrr]; exact hr _ _ _ _ _ ho k σ w cargs p hb h G hp hv hn

end Go.Qa
end

/- A region in the order of its text. -/
section
namespace Go.Qa
variable {P : Program} {C : Ctx} {F : Fence} {k n : Nat} {σ : Sig} {T : Tmps} {a : Act} {s : St} {w : World}

theorem TRel.put (ht : TRel σ T a.tmps) {v : AV} {c : Value} (hv : VRel σ v c) (d : Option Nat) : TRel σ (T.putO d v) (a.put d c).tmps := by
  cases d with
  | none => exact ht
  | some d =>
    refine ⟨?_, fun i => ?_⟩
    · show (T.put d v).n = (a.tmps.setIfInBounds d c).size
      rw [Tmps.n_put, ht.size]; simp
    · show VRel σ ((T.put d v).get i) ((a.tmps.setIfInBounds d c).getD i Go.undef)
      rw [Tmps.get_put]
      have hs := ht.size
      by_cases h : i = d ∧ d < T.n
      · rw [if_pos h]
        obtain ⟨rfl, h2⟩ := h
        have : (a.tmps.setIfInBounds i c).getD i Go.undef = c := by
          have : i < a.tmps.size := by omega
          simp [Array.getD, this]
        rw [this]; exact hv
      · rw [if_neg h]
        have : (a.tmps.setIfInBounds d c).getD i Go.undef = a.tmps.getD i Go.undef := by
          rw [Array.getD_eq_getD_getElem?, Array.getD_eq_getD_getElem?, Array.getElem?_setIfInBounds]
          by_cases e : d = i
          · subst e
            have : ¬ d < a.tmps.size := fun hh => h ⟨rfl, by omega⟩
            simp [this]
          · simp [e]
        rw [this]; exact ht.at_ i

theorem comes_upon (hF : FOk F) {o : Oper} {next : Act → World → Prop} {Q : Exit → Act → World → Prop} {R : Value → World → Prop} {r : Result Next} (h : Comes F (n - 1) P R r) (hR : ∀ c w', R c w' → next (a.put o.dst c) w') : o.uponIn F n P a next Q r := by
  have hd : F.depth.isSome = true → 1 ≤ n := fun hh => by rw [hF.depth] at hh; cases hh
  unfold Comes at h
  split at h
  · exact hR _ _ h
  · exact hR _ _ h
  · exact ⟨hd, h.mono fun e w'' ⟨c, he, hr⟩ => by subst he; exact hR _ _ hr⟩
  · exact ⟨hd, h.mono fun e w'' ⟨c, he, hr⟩ => by subst he; exact hR _ _ hr⟩
  · exact h.elim

theorem semAt_ok {o : Oper} {b : AOp} (hc : cOp C o.op = some b) (ro : Option Nat) (ρ : Operand → Value) : o.semAt ro ρ = execOp ρ o := by
  unfold Oper.semAt
  split
  · rename_i c ho
    rw [ho] at hc
    simp [cOp] at hc
  · rfl

/-- a guard, here and there -/
theorem guard_ok {ops : Array Oper} {g g' : Option (Nat × Bool)} (hg : cGuard (ops.toList.map (·.dst)) g = some g') (ht : TRel σ T a.tmps) {o : Oper} (ho : o.guard = g) : Region.wanted o (yielded ops a.tmps) = guardOk g' T := by
  subst ho
  unfold cGuard at hg
  unfold Region.wanted
  split at hg
  · rename_i h
    injection hg with hg; subst hg
    rw [h]; rfl
  · rename_i j wn h
    split at hg <;> first | (cases hg; done) | skip
    rename_i t hd
    injection hg with hg; subst hg
    rw [h]
    have hdst : ((ops[j]?).bind (·.dst)) = some t := by
      rw [List.getElem?_map] at hd
      cases hj : ops.toList[j]? with
      | none => rw [hj] at hd; cases hd
      | some x =>
        rw [hj] at hd
        have : ops[j]? = some x := by rw [← hj]; simp
        rw [this]
        simpa using hd
    simp only [guardOk]
    have hr := ht.at_ t
    unfold yielded
    rw [hdst]
    simp only [Option.bind_some]
    rw [Array.getD_eq_getD_getElem?] at hr
    generalize T.get t = v at hr
    cases hx : a.tmps[t]? with
    | none =>
      rw [hx] at hr
      simp at hr
      cases hr; rfl
    | some x =>
      rw [hx] at hr
      simp at hr
      cases hr <;> first | rfl | (rename_i b; cases b <;> cases wn <;> rfl)

/-- what a stretch of code comes to -/
def Done (C : Ctx) (σ : Sig) (s : St) (w : World) (a : Act) (T' : Tmps) (s' : St) (a' : Act) (w' : World) : Prop := ∃ σ', Post C σ s w σ' s' w' ∧ TRel σ' T' a'.tmps ∧ a'.defers = a.defers

theorem put_defers (a : Act) (d : Option Nat) (v : Value) : (a.put d v).defers = a.defers := by cases d <;> rfl

theorem opsIn_pre {call round : Call} (K : CtxOk C P) (hF : FOk F) (hc : CallOk C P F call) (hr : RoundOk C P F round) (hcs : CallStep call) (hrs : CallStep round) {ops : Array Oper} {Q : Exit → Act → World → Prop} :
    ∀ (rest : List Oper) (tl : List Nat) (more : List Oper) (i : Nat) (l : List AOper) (T : Tmps) (a : Act) (s : St) (w : World) (σ : Sig) (T' : Tmps) (s' : St), ops.toList.drop i = rest ++ more → cOpers.go0 C (ops.toList.map (·.dst)) rest = some l → runOps call round l T s = some (T', s') →
      s.base ≤ s.next → GOk C σ → TRel σ T a.tmps → HRel C σ s.get w → (∀ id, s.next ≤ id → id < s'.next → σ id = none) → (∀ a' w', Done C σ s w a T' s' a' w' → wpOpsIn F n P ops Q tl a' w') →
      wpOpsIn F n P ops Q (List.range' i rest.length ++ tl) a w := by
  intro rest
  induction rest with
  | nil =>
    intro tl more i l T a s w σ T' s' hd hl hrun hb G ht h hn hQ
    simp [cOpers.go0] at hl
    subst hl
    simp [runOps] at hrun
    obtain ⟨rfl, rfl⟩ := hrun
    simp only [List.length_nil, List.range'_zero, List.nil_append]
    exact hQ _ _ ⟨σ, .refl h, ht, rfl⟩
  | cons o rest ih =>
    intro tl more i l T a s w σ T' s' hd hl hrun hb G ht h hn hQ
    simp only [cOpers.go0] at hl
    split at hl <;> first | (cases hl; done) | skip
    rename_i g l' hg hl'
    injection hl with hl; subst hl
    have hi : ops[i]? = some o := by
      have := congrArg (·[0]?) hd
      simp only [List.getElem?_drop, List.cons_append, List.getElem?_cons_zero] at this
      simpa using this
    have hd' : ops.toList.drop (i + 1) = rest ++ more := by
      have := congrArg (List.drop 1) hd
      simpa [List.drop_drop] using this
    simp only [List.length_cons, List.range'_succ, List.cons_append, wpOpsIn, hi]
    have hgo := guard_ok (o := o) hg ht rfl
    rw [hgo]
    simp only [runOps] at hrun
    split at hrun
    · rename_i hfalse
      rw [hfalse]
      simp only [Bool.false_eq_true, if_false]
      refine ⟨fun f _ => hF.fn f, ?_⟩
      exact ih tl more (i + 1) l' _ _ s w σ T' s' hd' hl' hrun hb G (ht.put (VRel.undef σ) _) h hn (fun a' w' ⟨σ', p1, p2, p3⟩ => hQ a' w' ⟨σ', p1, p2, by rw [p3, put_defers]⟩)
    · rename_i htrue
      rw [htrue]
      simp only [if_true]
      split at hrun <;> first | (cases hrun; done) | skip
      rename_i v s1 hdo
      have hco : cOp C o.op = some (cOpB C o.op) := by
        unfold cOpB at hdo ⊢
        split
        · assumption
        · rename_i hnone
          rw [hnone] at hdo
          simp [doOp, opA] at hdo
      have st1 := doOp_step hcs hrs hb hdo
      have st2 := runOps_step hcs hrs (st1.le hb) hrun
      have hcm := doOp_ok (k := n - 1) K hc hr hb G ht h o hco (fun id h1 h2 => hn id h1 (Nat.lt_of_lt_of_le h2 st2.next)) hdo
      refine ⟨fun f _ => hF.fn f, ?_⟩
      rw [semAt_ok hco]
      refine comes_upon hF hcm ?_
      rintro c w1 ⟨σ1, p1, p2⟩
      refine ih tl more (i + 1) l' _ _ s1 w1 σ1 T' s' hd' hl' hrun (st1.le hb) (G.mono p1.ext.sub) ((ht.mono p1.ext.sub).put p2 _) p1.rel ?_ ?_
      · intro id h1 h2
        cases hh : σ1 id with
        | none => rfl
        | some p =>
          have h0 := hn id (Nat.le_trans st1.next h1) h2
          have := p1.ext.new id p hh h0
          omega
      · rintro a' w' ⟨σ', q1, q2, q3⟩
        exact hQ a' w' ⟨σ', p1.trans q1 hn, q2, by rw [q3, put_defers]⟩

theorem opsIn_ok {call round : Call} (K : CtxOk C P) (hF : FOk F) (hc : CallOk C P F call) (hr : RoundOk C P F round) (hcs : CallStep call) (hrs : CallStep round) {ops : Array Oper} {Q : Exit → Act → World → Prop}
    (rest : List Oper) (i : Nat) (l : List AOper) (T : Tmps) (a : Act) (s : St) (w : World) (σ : Sig) (T' : Tmps) (s' : St) (hd : ops.toList.drop i = rest) (hl : cOpers.go0 C (ops.toList.map (·.dst)) rest = some l) (hrun : runOps call round l T s = some (T', s'))
      (hb : s.base ≤ s.next) (G : GOk C σ) (ht : TRel σ T a.tmps) (h : HRel C σ s.get w) (hn : ∀ id, s.next ≤ id → id < s'.next → σ id = none) (hQ : ∀ a' w', Done C σ s w a T' s' a' w' → Q .normal a' w') :
      wpOpsIn F n P ops Q (List.range' i rest.length) a w := by
  have := opsIn_pre (n := n) (Q := Q) K hF hc hr hcs hrs rest [] [] i l T a s w σ T' s' (by rw [List.append_nil]; exact hd) hl hrun hb G ht h hn hQ
  rwa [List.append_nil] at this

/-- an operation by hand -/
theorem opsIn_hand (hF : FOk F) {ops : Array Oper} {Q : Exit → Act → World → Prop} {i : Nat} {rest : List Nat} {o : Oper} {c : Value} {w' : World} (ho : ops[i]? = some o) (hg : o.guard = none) (hd : ∀ c, o.op ≠ .defer c) (he : (execOp a.eval o).run P w = .ok (.value c) w')
    (h : wpOpsIn F n P ops Q rest (a.put o.dst c) w') : wpOpsIn F n P ops Q (i :: rest) a w := by
  simp only [wpOpsIn, ho]
  have hw : Region.wanted o (yielded ops a.tmps) = true := by unfold Region.wanted; rw [hg]
  rw [hw]
  simp only [if_true]
  refine ⟨fun f _ => hF.fn f, ?_⟩
  rw [Oper.semAt_eq _ _ _ hd, he]
  exact h

end Go.Qa
end

/- A region that draws its order: the abstract run as a row of records. -/
section
namespace Go.Qa
variable {P : Program} {C : Ctx} {F : Fence} {k n : Nat}

/-- one operation of the abstract run: before it, what it touched, what it gave -/
structure Rec where
  T : Tmps
  s : St
  t : Touch
  v : AV

def sAt (recs : List Rec) (s' : St) (i : Nat) : St := match recs[i]? with
  | some r => r.s
  | none => s'
def TAt (recs : List Rec) (T' : Tmps) (i : Nat) : Tmps := match recs[i]? with
  | some r => r.T
  | none => T'

/-- what the record of an operation says -/
def RecOk (call round : Call) (o : AOper) (i : Nat) (sofar : List Touch) (r : Rec) (T1 : Tmps) (s1 : St) : Prop :=
  (guardOk o.guard r.T = false ∧ r.v = .undef ∧ T1 = r.T.putO o.dst .undef ∧ s1 = r.s ∧ r.t = ⟨some [], [], r.s.next, r.s.next⟩) ∨
  (guardOk o.guard r.T = true ∧ ∃ h s2, hidFor (readsOf o.op r.T) sofar i o.uno r.s = some h ∧ doOp call round o.op r.T ⟨r.s.heap, r.s.next, r.s.next, [], h⟩ = some (r.v, s2) ∧
    r.t = ⟨readsOf o.op r.T, s2.wr, r.s.next, s2.next⟩ ∧ freeOk o.op r.t = true ∧ apartAll r.t sofar i o.uno = true ∧ T1 = r.T.putO o.dst r.v ∧ s1 = ⟨s2.heap, s2.next, r.s.base, noteAll r.s s2.wr, r.s.hid⟩)

/-- the records from an operation on -/
inductive Recs (call round : Call) (T' : Tmps) (s' : St) : List AOper → Nat → List Touch → Tmps → St → List Rec → Prop
  | nil (i : Nat) (sofar : List Touch) : Recs call round T' s' [] i sofar T' s' []
  | cons (o : AOper) (l : List AOper) (i : Nat) (sofar : List Touch) (r : Rec) (T1 : Tmps) (s1 : St) (rs : List Rec) : RecOk call round o i sofar r T1 s1 → Recs call round T' s' l (i + 1) (r.t :: sofar) T1 s1 rs →
      Recs call round T' s' (o :: l) i sofar r.T r.s (r :: rs)

theorem recs_of_run {call round : Call} {T' : Tmps} {s' : St} : ∀ {l : List AOper} {i : Nat} {sofar : List Touch} {T : Tmps} {s : St}, runOpsD call round l i sofar T s = some (T', s') → ∃ rs, Recs call round T' s' l i sofar T s rs
  | [], i, sofar, T, s, h => by
    simp [runOpsD] at h
    obtain ⟨rfl, rfl⟩ := h
    exact ⟨[], .nil _ _⟩
  | o :: l, i, sofar, T, s, h => by
    simp only [runOpsD] at h
    split at h
    · rename_i hg
      obtain ⟨rs, hrs⟩ := recs_of_run h
      exact ⟨_, .cons o l i sofar ⟨T, s, ⟨some [], [], s.next, s.next⟩, .undef⟩ _ _ rs (.inl ⟨hg, rfl, rfl, rfl, rfl⟩) hrs⟩
    · rename_i hg
      split at h <;> first | (cases h; done) | skip
      rename_i hd hh
      split at h <;> first | (cases h; done) | skip
      rename_i v s2 hdo
      split at h <;> first | (cases h; done) | skip
      rename_i hf ha
      obtain ⟨rs, hrs⟩ := recs_of_run h
      exact ⟨_, .cons o l i sofar ⟨T, s, ⟨readsOf o.op T, s2.wr, s.next, s2.next⟩, v⟩ _ _ rs (.inr ⟨hg, hd, s2, hh, hdo, rfl, hf, ha, rfl, rfl⟩) hrs⟩

theorem Recs.length {call round : Call} {T' : Tmps} {s' : St} {l : List AOper} {i : Nat} {sofar : List Touch} {T : Tmps} {s : St} {rs : List Rec} (h : Recs call round T' s' l i sofar T s rs) : rs.length = l.length := by
  induction h with
  | nil => rfl
  | cons _ _ _ _ _ _ _ _ _ _ ih => simp [ih]
theorem Recs.head {call round : Call} {T' : Tmps} {s' : St} {l : List AOper} {i : Nat} {sofar : List Touch} {T : Tmps} {s : St} {rs : List Rec} (h : Recs call round T' s' l i sofar T s rs) : TAt rs T' 0 = T ∧ sAt rs s' 0 = s := by
  cases h <;> exact ⟨rfl, rfl⟩
theorem Recs.at_ {call round : Call} {T' : Tmps} {s' : St} {l : List AOper} {i : Nat} {sofar : List Touch} {T : Tmps} {s : St} {rs : List Rec} (h : Recs call round T' s' l i sofar T s rs) :
    ∀ {j : Nat} {o : AOper} {r : Rec}, l[j]? = some o → rs[j]? = some r → RecOk call round o (i + j) (((rs.take j).map (·.t)).reverse ++ sofar) r (TAt rs T' (j + 1)) (sAt rs s' (j + 1)) := by
  induction h with
  | nil => intro j o r hl; simp at hl
  | cons o0 l i sofar r0 T1 s1 rs hr hrs ih =>
    intro j o r hl hj
    cases j with
    | zero =>
      simp at hl hj
      subst hl; subst hj
      have := hrs.head
      have e1 : TAt (r0 :: rs) T' (0 + 1) = T1 := this.1
      have e2 : sAt (r0 :: rs) s' (0 + 1) = s1 := this.2
      rw [e1, e2]
      simpa using hr
    | succ j =>
      have := ih (j := j) (o := o) (r := r) (by simpa using hl) (by simpa using hj)
      have e1 : TAt (r0 :: rs) T' (j + 1 + 1) = TAt rs T' (j + 1) := rfl
      have e2 : sAt (r0 :: rs) s' (j + 1 + 1) = sAt rs s' (j + 1) := rfl
      rw [e1, e2]
      have e3 : i + (j + 1) = i + 1 + j := by omega
      rw [e3]
      simpa using this

/-! ### Touches that keep apart -/
def rdIn (rd : Option (List Nat)) (x : Nat) : Prop := match rd with
  | none => True
  | some r => x ∈ r
structure Apart (a b : Touch) : Prop where
  wr : ∀ x ∈ a.wr, ¬ rdIn b.rd x
  rw : ∀ x ∈ b.wr, ¬ rdIn a.rd x
  ww : ∀ x ∈ a.wr, x ∉ b.wr
  wo : ∀ x ∈ a.wr, ¬ (b.lo ≤ x ∧ x < b.hi)
  ow : ∀ x ∈ b.wr, ¬ (a.lo ≤ x ∧ x < a.hi)
  ro : ∀ r, a.rd = some r → ∀ x ∈ r, ¬ (b.lo ≤ x ∧ x < b.hi)
  or : ∀ r, b.rd = some r → ∀ x ∈ r, ¬ (a.lo ≤ x ∧ x < a.hi)
theorem Apart.symm {a b : Touch} (h : Apart a b) : Apart b a := ⟨h.rw, h.wr, fun x hx hy => h.ww x hy hx, h.ow, h.wo, h.or, h.ro⟩
theorem disj_ok : ∀ {a b : List Nat}, disj a b = true → ∀ x ∈ a, x ∉ b
  | [], b, h, x, hx => by cases hx
  | y :: a, b, h, x, hx => by
    simp only [disj] at h
    split at h
    · cases h
    · rename_i hm
      rcases List.mem_cons.1 hx with e | e
      · subst e; intro hb; rw [(memN_iff _ _).2 hb] at hm; cases hm
      · exact disj_ok h x e
theorem outside_ok : ∀ {a : List Nat} {lo hi : Nat}, outside a lo hi = true → ∀ x ∈ a, ¬ (lo ≤ x ∧ x < hi)
  | [], lo, hi, h, x, hx => by cases hx
  | y :: a, lo, hi, h, x, hx => by
    simp only [outside] at h
    split at h
    · cases h
    · rename_i hm
      rcases List.mem_cons.1 hx with e | e
      · subst e
        rintro ⟨h1, h2⟩
        exact hm (by rw [ble_iff]; exact decide_eq_true h1) (by rw [blt_iff]; exact decide_eq_true h2)
      · exact outside_ok h x e
theorem apartWR_ok {w : List Nat} {rd : Option (List Nat)} (h : apartWR w rd = true) : ∀ x ∈ w, ¬ rdIn rd x := by
  unfold apartWR at h
  split at h
  · intro x hx; cases hx
  · cases h
  · exact disj_ok h
theorem apart_ok {a b : Touch} (h : apart a b = true) : Apart a b := by
  unfold apart at h
  simp only [Bool.and_eq_true] at h
  obtain ⟨⟨⟨⟨⟨⟨h1, h2⟩, h3⟩, h4⟩, h5⟩, h6⟩, h7⟩ := h
  exact ⟨apartWR_ok h1, apartWR_ok h2, disj_ok h3, outside_ok h4, outside_ok h5, fun r hr => by rw [hr] at h6; exact outside_ok h6, fun r hr => by rw [hr] at h7; exact outside_ok h7⟩
/-- who touches nothing keeps apart from all -/
theorem apart_none {a b : Touch} (h1 : a.wr = []) (h2 : a.rd = some []) (h3 : a.lo = a.hi) : Apart a b where
  wr := fun x hx => by rw [h1] at hx; cases hx
  rw := fun x _ hr => by rw [h2] at hr; cases hr
  ww := fun x hx => by rw [h1] at hx; cases hx
  wo := fun x hx => by rw [h1] at hx; cases hx
  ow := fun x _ h => by omega
  ro := fun r hr x hx => by rw [h2] at hr; injection hr with hr; subst hr; cases hx
  or := fun r _ x _ h => by omega

theorem nth_eq : ∀ (l : List Touch) (i : Nat), nth? l i = l[i]?
  | [], _ => rfl
  | _ :: _, 0 => rfl
  | _ :: l, i + 1 => by simp [nth?, nth_eq l i]
theorem apartAll_ok {t : Touch} {sofar : List Touch} {n : Nat} : ∀ {l : List Nat}, apartAll t sofar n l = true → ∀ j ∈ l, ∃ u, sofar[n - 1 - j]? = some u ∧ Apart t u
  | [], _, j, hj => by cases hj
  | i :: l, h, j, hj => by
    simp only [apartAll, nth_eq] at h
    split at h <;> first | (cases h; done) | skip
    rename_i u hu
    split at h <;> first | (cases h; done) | skip
    rename_i ha
    rcases List.mem_cons.1 hj with e | e
    · subst e; exact ⟨u, hu, apart_ok ha⟩
    · exact apartAll_ok h j e
/-- the touches so far, the last one first -/
theorem sofar_at {rs : List Rec} {i j : Nat} (hi : i ≤ rs.length) (hj : j < i) : (((rs.take i).map (·.t)).reverse)[i - 1 - j]? = (rs[j]?).map (·.t) := by
  have hl : ((rs.take i).map (·.t)).length = i := by simp; omega
  rw [List.getElem?_reverse (by rw [hl]; omega), hl]
  have : i - 1 - (i - 1 - j) = j := by omega
  rw [this, List.getElem?_map, List.getElem?_take, if_pos hj]

end Go.Qa
end

/- A region that draws its order: who is bound behind whom, as the compiler reckons it. -/
section
namespace Go.Qa
variable {P : Program} {C : Ctx}

/-- the bits of one operation, out of those ahead (the last one first) -/
def bitsOf (o : Oper) (acc : List Nat) : Nat :=
  o.after.toList.foldl (fun s e => if Region.binds .any e then s ||| 2 ^ e.on ||| (acc.getD (acc.length - 1 - e.on) 0) else s) 0
theorem befores_cons (o : Oper) (r : List Oper) (acc : List Nat) : befores (o :: r) acc = befores r (bitsOf o acc :: acc) := rfl

theorem fold_bits (g : Edge → Bool) (f : Edge → Nat) (j : Nat) : ∀ (l : List Edge) (s0 : Nat), (l.foldl (fun s e => if g e then s ||| 2 ^ e.on ||| f e else s) s0).testBit j = true →
    s0.testBit j = true ∨ ∃ e ∈ l, g e = true ∧ (j = e.on ∨ (f e).testBit j = true)
  | [], s0, h => .inl h
  | e :: l, s0, h => by
    simp only [List.foldl_cons] at h
    rcases fold_bits g f j l _ h with h1 | ⟨e', he', h2⟩
    · by_cases hg : g e = true
      · rw [if_pos hg] at h1
        simp only [Nat.testBit_or, Bool.or_eq_true, Nat.testBit_two_pow] at h1
        rcases h1 with (h1 | h1) | h1
        · exact .inl h1
        · exact .inr ⟨e, List.mem_cons_self, hg, .inl (of_decide_eq_true h1).symm⟩
        · exact .inr ⟨e, List.mem_cons_self, hg, .inr h1⟩
      · rw [if_neg hg] at h1; exact .inl h1
    · exact .inr ⟨e', List.mem_cons_of_mem _ he', h2⟩

theorem befores_length : ∀ (ops : List Oper) (acc : List Nat), (befores ops acc).length = ops.length + acc.length
  | [], acc => by simp [befores]
  | o :: r, acc => by rw [befores_cons, befores_length r]; simp; omega
/-- what was reckoned stays -/
theorem befores_tail : ∀ (ops : List Oper) (acc : List Nat), (befores ops acc).reverse.take acc.length = acc.reverse
  | [], acc => by
    simp only [befores]
    exact List.take_of_length_le (by simp)
  | o :: r, acc => by
    rw [befores_cons]
    have := befores_tail r (bitsOf o acc :: acc)
    have h2 := congrArg (List.take acc.length) this
    rw [List.take_take] at h2
    simp at h2
    simpa using h2
theorem befores_at : ∀ (ops : List Oper) (acc : List Nat) (i : Nat) (o : Oper), ops[i]? = some o → ∃ acc', (befores ops acc).reverse[acc.length + i]? = some (bitsOf o acc') ∧ acc'.length = acc.length + i ∧ acc'.reverse = (befores ops acc).reverse.take (acc.length + i)
  | o :: r, acc, 0, o', h => by
    simp at h; subst h
    refine ⟨acc, ?_, by simp, by simpa using (befores_tail (o :: r) acc).symm⟩
    have := befores_tail r (bitsOf o acc :: acc)
    rw [befores_cons]
    have h2 := congrArg (·[acc.length]?) this
    simp only [List.getElem?_take, List.length_cons] at h2
    rw [if_pos (by omega)] at h2
    simp only [Nat.add_zero]
    rw [h2]
    simp
  | o :: r, acc, i + 1, o', h => by
    rw [befores_cons]
    obtain ⟨acc', h1, h2, h3⟩ := befores_at r (bitsOf o acc :: acc) i o' (by simpa using h)
    simp only [List.length_cons] at h1 h2 h3
    have e : acc.length + 1 + i = acc.length + (i + 1) := by omega
    rw [e] at h1 h2 h3
    exact ⟨acc', h1, h2, h3⟩
  | [], acc, i, o', h => by simp at h

/-- is the i-th operation bound behind the j-th? -/
def Before (bs : List Nat) (i j : Nat) : Prop := ∃ b, bs[i]? = some b ∧ b.testBit j = true

theorem backward_at : ∀ {ops : List Oper} {i j : Nat} {o : Oper}, backward ops i = true → ops[j]? = some o → ∀ e ∈ o.after, Region.binds .any e = true → e.on < i + j
  | o0 :: r, i, 0, o, h, hj, e, he, hb => by
    simp at hj; subst hj
    simp only [backward, Bool.and_eq_true, List.all_eq_true] at h
    have := h.1 e (by simpa using he)
    rw [hb] at this
    simp [blt_iff] at this
    simpa using this
  | o0 :: r, i, j + 1, o, h, hj, e, he, hb => by
    simp only [backward, Bool.and_eq_true] at h
    have := backward_at h.2 (by simpa using hj : r[j]? = some o) e he hb
    omega
  | [], i, j, o, h, hj, e, he, hb => by simp at hj

theorem before_edge {ops : List Oper} (hbk : backward ops 0 = true) {i j : Nat} {o : Oper} (ho : ops[i]? = some o) (h : Before (befores ops []).reverse i j) :
    ∃ e ∈ o.after, Region.binds .any e = true ∧ e.on < i ∧ (j = e.on ∨ Before (befores ops []).reverse e.on j) := by
  obtain ⟨b, hb, ht⟩ := h
  obtain ⟨acc', h1, h2, h3⟩ := befores_at ops [] i o ho
  simp only [List.length_nil, Nat.zero_add] at h1 h2 h3
  rw [h1] at hb; injection hb with hb; subst hb
  unfold bitsOf at ht
  rcases fold_bits _ _ j _ _ ht with h0 | ⟨e, he, hg, hj⟩
  · simp at h0
  · have hon := backward_at hbk ho e (by simpa using he) hg
    simp only [Nat.zero_add] at hon
    refine ⟨e, by simpa using he, hg, hon, hj.imp id fun hj => ?_⟩
    have hget : acc'.getD (acc'.length - 1 - e.on) 0 = acc'.reverse.getD e.on 0 := by
      rw [List.getD_eq_getElem?_getD, List.getD_eq_getElem?_getD, List.getElem?_reverse (by omega)]
    rw [hget, h3, List.getD_eq_getElem?_getD, List.getElem?_take, if_pos hon] at hj
    cases hb2 : (befores ops []).reverse[e.on]? with
    | none => rw [hb2] at hj; simp at hj
    | some b2 => rw [hb2] at hj; exact ⟨b2, hb2, by simpa using hj⟩

theorem mem_unos {frees : List Bool} {b i j : Nat} : j ∈ unosOf frees b i ↔ j < i ∧ b.testBit j = false ∧ frees.getD j true = false := by
  unfold unosOf
  simp only [List.mem_filter, List.mem_range, Bool.and_eq_true, Bool.not_eq_true']

theorem goD_at {dsts : List (Option Nat)} {frees : List Bool} : ∀ {ops : List Oper} {as : List AOp} {bs : List Nat} {i : Nat} {l : List AOper}, cOpers.goD dsts frees ops as bs i = some l → as.length = ops.length → bs.length = ops.length →
    l.length = ops.length ∧ ∀ (j : Nat) (o : Oper), ops[j]? = some o → ∃ g a b, as[j]? = some a ∧ bs[j]? = some b ∧ cGuard dsts o.guard = some g ∧ l[j]? = some ⟨o.dst, g, a, if isFree a then [] else unosOf frees b (i + j)⟩
  | [], as, bs, i, l, h, h1, h2 => by
    cases as with
    | nil => simp [cOpers.goD] at h; subst h; exact ⟨rfl, fun j o hj => by simp at hj⟩
    | cons a as => simp at h1
  | o :: r, [], bs, i, l, h, h1, h2 => by simp at h1
  | o :: r, a :: as, [], i, l, h, h1, h2 => by simp at h2
  | o :: r, a :: as, b :: bs, i, l, h, h1, h2 => by
    simp only [cOpers.goD] at h
    split at h <;> first | (cases h; done) | skip
    rename_i g l' hg hl
    injection h with h; subst h
    obtain ⟨h3, h4⟩ := goD_at hl (by simpa using h1) (by simpa using h2)
    refine ⟨by simp [h3], fun j o' hj => ?_⟩
    cases j with
    | zero => simp at hj; subst hj; exact ⟨g, a, b, rfl, rfl, hg, rfl⟩
    | succ j =>
      obtain ⟨g', a', b', e1, e2, e3, e4⟩ := h4 j o' (by simpa using hj)
      refine ⟨g', a', b', by simpa using e1, by simpa using e2, e3, ?_⟩
      have : i + 1 + j = i + (j + 1) := by omega
      simpa [this] using e4

theorem freeNames_ok {names : List (List Nat × Option Nat)} {b i : Nat} {me : List Nat × Option Nat} (h : freeNames names b i me = true) {j : Nat} (hj : j < i) (hb : b.testBit j = false) : ∃ ns d, names[j]? = some (ns, d) ∧
    (∀ x, d = some x → x ∉ me.1 ∧ ∀ y, me.2 = some y → x ≠ y) ∧ (∀ y, me.2 = some y → y ∉ ns) := by
  unfold freeNames at h
  rw [List.all_eq_true] at h
  have := h j (List.mem_range.2 hj)
  rw [hb] at this
  simp only [Bool.false_or] at this
  split at this <;> first | (cases this; done) | skip
  rename_i ns d hn
  refine ⟨ns, d, hn, ?_, ?_⟩
  · intro x hx
    subst hx
    simp only [Bool.and_eq_true, Bool.not_eq_true'] at this
    refine ⟨fun hm => ?_, fun y hy => ?_⟩
    · have h1 := this.1.1
      rw [(memN_iff _ _).2 hm] at h1; cases h1
    · have h1 := this.1.2
      rw [hy] at h1
      simp only [Bool.not_eq_true', beq_iff] at h1
      exact of_decide_eq_false h1
  · intro y hy hm
    simp only [Bool.and_eq_true] at this
    have h1 := this.2
    rw [hy] at h1
    simp only [Bool.not_eq_true'] at h1
    rw [(memN_iff _ _).2 hm] at h1; cases h1

theorem allFree_at {names : List (List Nat × Option Nat)} : ∀ {ms : List (List Nat × Option Nat)} {bs : List Nat} {i : Nat}, allFree names ms bs i = true → ∀ {j : Nat} {m : List Nat × Option Nat} {b : Nat}, ms[j]? = some m → bs[j]? = some b → freeNames names b (i + j) m = true
  | m0 :: ms, b0 :: bs, i, h, j, m, b, hm, hb => by
    simp only [allFree, Bool.and_eq_true] at h
    cases j with
    | zero => simp at hm hb; subst hm; subst hb; exact h.1
    | succ j =>
      have := allFree_at h.2 (by simpa using hm : ms[j]? = some m) (by simpa using hb : bs[j]? = some b)
      have e : Nat.succ i + j = i + (j + 1) := by omega
      rw [e] at this
      exact this
  | [], _, i, h, j, m, b, hm, hb => by simp at hm
  | _ :: _, [], i, h, j, m, b, hm, hb => by simp at hb

end Go.Qa
end

/- A region that draws its order: what is apart, what is left alone, who touched last. -/
section
namespace Go.Qa
variable {P : Program} {C : Ctx}

instance : Inhabited Rec := ⟨⟨⟨0, blank, .nil⟩, ⟨.nil, 0, 0, [], []⟩, ⟨none, [], 0, 0⟩, .undef⟩⟩

/-! ### The last one -/
def lastIn (p : Nat → Bool) : Nat → Option Nat
  | 0 => none
  | n + 1 => if p n then some n else lastIn p n
theorem lastIn_some {p : Nat → Bool} : ∀ {n j : Nat}, lastIn p n = some j → j < n ∧ p j = true ∧ ∀ i, j < i → i < n → p i = false
  | 0, j, h => by cases h
  | n + 1, j, h => by
    unfold lastIn at h
    split at h
    · rename_i hp; injection h with h; subst h; exact ⟨Nat.lt_succ_self _, hp, fun i h1 h2 => by omega⟩
    · rename_i hp
      obtain ⟨h1, h2, h3⟩ := lastIn_some h
      refine ⟨by omega, h2, fun i h4 h5 => ?_⟩
      by_cases e : i = n
      · subst e; simpa using hp
      · exact h3 i h4 (by omega)
theorem lastIn_none {p : Nat → Bool} : ∀ {n : Nat}, lastIn p n = none → ∀ i, i < n → p i = false
  | 0, h, i, hi => by omega
  | n + 1, h, i, hi => by
    unfold lastIn at h
    split at h
    · cases h
    · rename_i hp
      by_cases e : i = n
      · subst e; simpa using hp
      · exact lastIn_none h i (by omega)
theorem lastIn_of {p : Nat → Bool} {n j : Nat} (h1 : j < n) (h2 : p j = true) (h3 : ∀ i, j < i → i < n → p i = false) : lastIn p n = some j := by
  cases h : lastIn p n with
  | none => rw [lastIn_none h j h1] at h2; cases h2
  | some i =>
    obtain ⟨g1, g2, g3⟩ := lastIn_some h
    rcases Nat.lt_trichotomy i j with e | e | e
    · rw [g3 j e h1] at h2; cases h2
    · rw [e]
    · rw [h3 i e g1] at g2; cases g2
theorem lastIn_of_none {p : Nat → Bool} {n : Nat} (h : ∀ i, i < n → p i = false) : lastIn p n = none := by
  cases h' : lastIn p n with
  | none => rfl
  | some i => obtain ⟨g1, g2, _⟩ := lastIn_some h'; rw [h i g1] at g2; cases g2
/-- the same ones, seen from two heights -/
theorem lastIn_congr {p q : Nat → Bool} {m n : Nat} (h : ∀ j, (j < m ∧ p j = true) ↔ (j < n ∧ q j = true)) : lastIn p m = lastIn q n := by
  cases hp : lastIn p m with
  | none =>
    symm
    refine lastIn_of_none fun i hi => ?_
    cases hq : q i with
    | false => rfl
    | true => have := (h i).2 ⟨hi, hq⟩; rw [lastIn_none hp i this.1] at this; cases this.2
  | some j =>
    obtain ⟨g1, g2, g3⟩ := lastIn_some hp
    symm
    have := (h j).1 ⟨g1, g2⟩
    refine lastIn_of this.1 this.2 fun i h1 h2 => ?_
    cases hq : q i with
    | false => rfl
    | true => have h4 := (h i).2 ⟨h2, hq⟩; rw [g3 i h1 h4.1] at h4; cases h4.2

/-! ### The region's facts -/
structure RegOk (C : Ctx) (call round : Call) (ops : List Oper) (l : List AOper) (rs : List Rec) (T0 T' : Tmps) (s0 s' : St) : Prop where
  recs : Recs call round T' s' l 0 [] T0 s0 rs
  len : l.length = ops.length
  row : ∀ (i : Nat) (o : Oper), ops[i]? = some o → ∃ g b, cGuard (ops.map (·.dst)) o.guard = some g ∧ (befores ops []).reverse[i]? = some b ∧
    l[i]? = some ⟨o.dst, g, cOpB C o.op, if isFree (cOpB C o.op) then [] else unosOf ((ops.map fun o => cOpB C o.op).map isFree) b i⟩
  names : ∀ (i j : Nat), j < i → i < ops.length → ¬ Before (befores ops []).reverse i j → ∃ oi oj, ops[i]? = some oi ∧ ops[j]? = some oj ∧
    (∀ x, oj.dst = some x → x ∉ namesOf (ops.map (·.dst)) (cOpB C oi.op) oi.guard ∧ ∀ y, oi.dst = some y → x ≠ y) ∧ (∀ y, oi.dst = some y → y ∉ namesOf (ops.map (·.dst)) (cOpB C oj.op) oj.guard)
  back : backward ops 0 = true
  callS : CallStep call
  roundS : CallStep round

theorem regOk_of {call round : Call} {ops : List Oper} {l : List AOper} {T0 T' : Tmps} {s0 s' : St} (hc : cOpers C true ops = some l) (hrun : runOpsD call round l 0 [] T0 s0 = some (T', s')) (h1 : CallStep call) (h2 : CallStep round) :
    ∃ rs, RegOk C call round ops l rs T0 T' s0 s' := by
  obtain ⟨rs, hrs⟩ := recs_of_run hrun
  unfold cOpers at hc
  simp only at hc
  split at hc <;> first | (cases hc; done) | skip
  rename_i hchk
  rw [Bool.and_eq_true] at hchk
  have hbl : (befores ops []).reverse.length = ops.length := by rw [List.length_reverse, befores_length]; simp
  obtain ⟨g1, g2⟩ := goD_at hc (by simp) hbl
  refine ⟨rs, hrs, g1, ?_, ?_, hchk.2, h1, h2⟩
  · intro i o ho
    obtain ⟨g, a, b, e1, e2, e3, e4⟩ := g2 i o ho
    have : a = cOpB C o.op := by
      rw [List.getElem?_map, ho] at e1
      simpa using e1.symm
    subst this
    refine ⟨g, b, e3, e2, ?_⟩
    simpa using e4
  · intro i j hj hi hb
    have hoi : ops[i]? = some ops[i] := by simp [hi]
    have hoj : ops[j]? = some (ops[j]'(by omega)) := by simp
    have hbi : (befores ops []).reverse[i]? = some ((befores ops []).reverse[i]'(by omega)) := List.getElem?_eq_getElem _
    have hm : (namesAll C (ops.map (·.dst)) ops)[i]? = some (namesOf (ops.map (·.dst)) (cOpB C ops[i].op) ops[i].guard, ops[i].dst) := by
      simp [namesAll, List.getElem?_map, hoi]
    have := allFree_at hchk.1 hm hbi
    simp only [Nat.zero_add] at this
    have hbit : ((befores ops []).reverse[i]'(by omega)).testBit j = false := by
      cases hh : ((befores ops []).reverse[i]'(by omega)).testBit j with
      | false => rfl
      | true => exact absurd ⟨_, hbi, hh⟩ hb
    obtain ⟨ns, d, k1, k2, k3⟩ := freeNames_ok this hj hbit
    have hn : (namesAll C (ops.map (·.dst)) ops)[j]? = some (namesOf (ops.map (·.dst)) (cOpB C (ops[j]'(by omega)).op) (ops[j]'(by omega)).guard, (ops[j]'(by omega)).dst) := by
      simp only [namesAll, List.getElem?_map, hoj]; rfl
    rw [hn] at k1
    injection k1 with k1
    injection k1 with k4 k5
    subst k4; subst k5
    exact ⟨_, _, hoi, hoj, k2, k3⟩

end Go.Qa
end

/- A region that draws its order: what holds between the operations that nothing binds; what a set of operations has made of heap and temporaries. -/
section
namespace Go.Qa
variable {P : Program} {C : Ctx}

/-- what an operation touches -/
def tch (r : Rec) (id : Nat) : Bool := memN r.t.wr id || (Nat.ble r.t.lo id && Nat.blt id r.t.hi)
theorem tch_iff {r : Rec} {id : Nat} : tch r id = true ↔ id ∈ r.t.wr ∨ (r.t.lo ≤ id ∧ id < r.t.hi) := by
  unfold tch
  rw [Bool.or_eq_true, Bool.and_eq_true, memN_iff, ble_iff, blt_iff]
  simp
theorem tch_none {r : Rec} (h1 : r.t.wr = []) (h2 : r.t.lo = r.t.hi) (id : Nat) : tch r id = false := by
  cases h : tch r id with
  | false => rfl
  | true =>
    rcases tch_iff.1 h with h | h
    · rw [h1] at h; cases h
    · omega
theorem Apart.tch {a b : Rec} (h : Apart a.t b.t) {id : Nat} (ha : tch a id = true) (hlo : a.t.hi ≤ b.t.lo ∨ b.t.hi ≤ a.t.lo) : tch b id = false := by
  cases hb : Qa.tch b id with
  | false => rfl
  | true =>
    rcases tch_iff.1 ha with h1 | h1 <;> rcases tch_iff.1 hb with h2 | h2
    · exact absurd h2 (h.ww _ h1)
    · exact absurd h2 (h.wo _ h1)
    · exact absurd h1 (h.ow _ h2)
    · omega

section
variable {call round : Call} {ops : List Oper} {l : List AOper} {rs : List Rec} {T0 T' : Tmps} {s0 s' : St}

theorem RegOk.rlen (R : RegOk C call round ops l rs T0 T' s0 s') : rs.length = ops.length := by rw [R.recs.length, R.len]

/-- one operation with its record -/
theorem RegOk.at_ (R : RegOk C call round ops l rs T0 T' s0 s') {i : Nat} (hi : i < ops.length) : ∃ (o : Oper) (r : Rec) (g : Option (Nat × Bool)) (b : Nat),
    ops[i]? = some o ∧ rs[i]? = some r ∧ cGuard (ops.map (·.dst)) o.guard = some g ∧ (befores ops []).reverse[i]? = some b ∧
    l[i]? = some ⟨o.dst, g, cOpB C o.op, if isFree (cOpB C o.op) then [] else unosOf ((ops.map fun o => cOpB C o.op).map isFree) b i⟩ ∧
    r.T = TAt rs T' i ∧ r.s = sAt rs s' i ∧
    RecOk call round ⟨o.dst, g, cOpB C o.op, if isFree (cOpB C o.op) then [] else unosOf ((ops.map fun o => cOpB C o.op).map isFree) b i⟩ i ((rs.take i).map (·.t)).reverse r (TAt rs T' (i + 1)) (sAt rs s' (i + 1)) := by
  have ho : ops[i]? = some ops[i] := by simp [hi]
  have hl : i < rs.length := by rw [R.rlen]; exact hi
  have hr : rs[i]? = some rs[i] := by simp [hl]
  obtain ⟨g, b, h1, h2, h3⟩ := R.row i _ ho
  have := R.recs.at_ h3 hr
  rw [Nat.zero_add, List.append_nil] at this
  exact ⟨_, _, g, b, ho, hr, h1, h2, h3, by simp [TAt, hr], by simp [sAt, hr], this⟩

/-- the step that an operation is, seen from the region -/
theorem RecOk.step {o : AOper} {i : Nat} {sofar : List Touch} {r : Rec} {T1 : Tmps} {s1 : St} (h : RecOk call round o i sofar r T1 s1) (hc : CallStep call) (hr : CallStep round) :
    T1 = r.T.putO o.dst r.v ∧ s1.base = r.s.base ∧ s1.hid = r.s.hid ∧ r.t.lo = r.s.next ∧ r.t.hi = s1.next ∧ r.s.next ≤ s1.next ∧ (∀ x ∈ r.t.wr, x < r.s.next) ∧
    (∀ x, x ∈ s1.wr ↔ x ∈ r.s.wr ∨ (x ∈ r.t.wr ∧ x < r.s.base)) ∧ (∀ id, id < r.s.next → id ∉ r.t.wr → s1.heap.get id = r.s.heap.get id) := by
  rcases h with ⟨h1, h2, h3, h4, h5⟩ | ⟨h1, hd, s2, h2, h3, h4, h5, h6, h7, h8⟩
  · subst h4
    rw [h5, h2]
    exact ⟨h3, rfl, rfl, rfl, rfl, Nat.le_refl _, fun x hx => by (cases hx), fun x => by simp, fun _ _ _ => rfl⟩
  · have a := doOp_step hc hr (Nat.le_refl _) h3
    subst h8
    rw [h4]
    refine ⟨h7, rfl, rfl, rfl, rfl, a.next, fun x hx => ?_, fun x => mem_noteAll _ _ _, fun id h9 h10 => a.same id h9 h9 h10⟩
    rcases a.low x hx with h | h
    · cases h
    · exact h.2

theorem reads_free {q : AOp} (hf : isFree q = true) (T : Tmps) : readsOf q T = some [] := by
  cases q
  case conv c x => cases c <;> first | rfl | (cases hf; done)
  all_goals first | rfl | (cases hf; done)
/-- what is free touches nothing -/
theorem RecOk.free {o : AOper} {i : Nat} {sofar : List Touch} {r : Rec} {T1 : Tmps} {s1 : St} (h : RecOk call round o i sofar r T1 s1) (hf : guardOk o.guard r.T = false ∨ isFree o.op = true) : r.t.wr = [] ∧ r.t.rd = some [] ∧ r.t.lo = r.t.hi := by
  rcases h with ⟨h1, h2, h3, h4, h5⟩ | ⟨h1, hd, s2, h2, h3, h4, h5, h6, h7, h8⟩
  · rw [h5]; exact ⟨rfl, rfl, rfl⟩
  · have hf : isFree o.op = true := hf.resolve_left (by rw [h1]; simp)
    have h5' := h5
    unfold freeOk at h5
    rw [hf] at h5
    simp only [Bool.and_eq_true, beq_iff, decide_eq_true_eq] at h5
    refine ⟨?_, ?_, h5.2⟩
    · cases hw : r.t.wr with
      | nil => rfl
      | cons a b => rw [hw] at h5; exact absurd h5.1 (by simp [nilN])
    · rw [h4]
      simp only
      exact reads_free hf _

theorem RegOk.apart (R : RegOk C call round ops l rs T0 T' s0 s') {i j : Nat} (hj : j < i) (hi : i < ops.length) (hb : ¬ Before (befores ops []).reverse i j) {ri rj : Rec} (hri : rs[i]? = some ri) (hrj : rs[j]? = some rj) : Apart ri.t rj.t := by
  obtain ⟨oi, ri', gi, bi, a1, a2, a3, a4, a5, a6, a7, a8⟩ := R.at_ hi
  obtain ⟨oj, rj', gj, bj, c1, c2, c3, c4, c5, c6, c7, c8⟩ := R.at_ (Nat.lt_trans hj hi)
  rw [a2] at hri; injection hri with hri; subst hri
  rw [c2] at hrj; injection hrj with hrj; subst hrj
  by_cases hfi : isFree (cOpB C oi.op) = true
  · obtain ⟨e1, e2, e3⟩ := a8.free (.inr hfi)
    exact apart_none e1 e2 e3
  · by_cases hfj : isFree (cOpB C oj.op) = true
    · obtain ⟨e1, e2, e3⟩ := c8.free (.inr hfj)
      exact (apart_none e1 e2 e3).symm
    · by_cases hg : guardOk gi ri'.T = false
      · obtain ⟨e1, e2, e3⟩ := a8.free (.inl hg)
        exact apart_none e1 e2 e3
      · rcases a8 with ⟨h1, h2, h3, h4, h5⟩ | ⟨h1, hd, s2, h2, h3, h4, h5, h6, h7, h8⟩
        · exact absurd h1 hg
        · rw [if_neg hfi] at h6
          have hbit : bi.testBit j = false := by
            cases hh : bi.testBit j with
            | false => rfl
            | true => exact absurd ⟨bi, a4, hh⟩ hb
          have hm : j ∈ unosOf ((ops.map fun o => cOpB C o.op).map isFree) bi i := by
            refine mem_unos.2 ⟨hj, hbit, ?_⟩
            rw [List.getD_eq_getElem?_getD, List.getElem?_map, List.getElem?_map, c1]
            simpa using hfj
          obtain ⟨u, hu, ha⟩ := apartAll_ok h6 j hm
          rw [sofar_at (by rw [R.rlen]; omega) hj, c2] at hu
          simp at hu
          subst hu
          exact ha

/-! ### Heights of the run -/
theorem RegOk.sAt0 (R : RegOk C call round ops l rs T0 T' s0 s') : sAt rs s' 0 = s0 := R.recs.head.2
theorem RegOk.TAt0 (R : RegOk C call round ops l rs T0 T' s0 s') : TAt rs T' 0 = T0 := R.recs.head.1
theorem RegOk.sAtEnd (R : RegOk C call round ops l rs T0 T' s0 s') : sAt rs s' ops.length = s' := by
  unfold sAt
  rw [List.getElem?_eq_none (by rw [R.rlen]; exact Nat.le_refl _)]
theorem RegOk.TAtEnd (R : RegOk C call round ops l rs T0 T' s0 s') : TAt rs T' ops.length = T' := by
  unfold TAt
  rw [List.getElem?_eq_none (by rw [R.rlen]; exact Nat.le_refl _)]

theorem RegOk.mono (R : RegOk C call round ops l rs T0 T' s0 s') : ∀ {i : Nat}, i ≤ ops.length → (sAt rs s' i).base = s0.base ∧ (sAt rs s' i).hid = s0.hid ∧ s0.next ≤ (sAt rs s' i).next
  | 0, _ => by rw [R.sAt0]; exact ⟨rfl, rfl, Nat.le_refl _⟩
  | i + 1, hi => by
    obtain ⟨o, r, g, b, a1, a2, a3, a4, a5, a6, a7, a8⟩ := R.at_ (i := i) (by omega)
    obtain ⟨m1, m2, m3⟩ := R.mono (i := i) (by omega)
    obtain ⟨s1, s2, s3, s4, s5, s6, s7, s8, s9⟩ := a8.step R.callS R.roundS
    rw [a7] at s2 s3 s6
    exact ⟨s2.trans m1, s3.trans m2, Nat.le_trans m3 s6⟩
theorem RegOk.next_mono (R : RegOk C call round ops l rs T0 T' s0 s') {i : Nat} : ∀ {j : Nat}, i ≤ j → j ≤ ops.length → (sAt rs s' i).next ≤ (sAt rs s' j).next
  | 0, h, _ => by have : i = 0 := by omega
                  subst this; exact Nat.le_refl _
  | j + 1, h, hj => by
    by_cases e : i = j + 1
    · subst e; exact Nat.le_refl _
    · obtain ⟨o, r, g, b, a1, a2, a3, a4, a5, a6, a7, a8⟩ := R.at_ (i := j) (by omega)
      obtain ⟨s1, s2, s3, s4, s5, s6, s7, s8, s9⟩ := a8.step R.callS R.roundS
      rw [a7] at s6
      exact Nat.le_trans (R.next_mono (j := j) (by omega) (by omega)) s6
/-- where an operation's new blocks lie -/
theorem RegOk.lohi (R : RegOk C call round ops l rs T0 T' s0 s') {i : Nat} (hi : i < ops.length) {r : Rec} (hr : rs[i]? = some r) : r.t.lo = (sAt rs s' i).next ∧ r.t.hi = (sAt rs s' (i + 1)).next ∧ r.t.lo ≤ r.t.hi ∧ ∀ x ∈ r.t.wr, x < r.t.lo := by
  obtain ⟨o, r', g, b, a1, a2, a3, a4, a5, a6, a7, a8⟩ := R.at_ hi
  rw [a2] at hr; injection hr with hr; subst hr
  obtain ⟨s1, s2, s3, s4, s5, s6, s7, s8, s9⟩ := a8.step R.callS R.roundS
  rw [← a7]
  exact ⟨s4, s5, by rw [s4, s5]; exact s6, fun x hx => by rw [s4]; exact s7 x hx⟩
theorem RegOk.hilo (R : RegOk C call round ops l rs T0 T' s0 s') {i j : Nat} (hij : j < i) (hi : i < ops.length) {ri rj : Rec} (hri : rs[i]? = some ri) (hrj : rs[j]? = some rj) : rj.t.hi ≤ ri.t.lo := by
  rw [(R.lohi hi hri).1, (R.lohi (Nat.lt_trans hij hi) hrj).2.1]
  exact R.next_mono (by omega) (by omega)

/-- two operations that touch the same are bound -/
theorem RegOk.bound (R : RegOk C call round ops l rs T0 T' s0 s') {i j : Nat} (hj : j < i) (hi : i < ops.length) {ri rj : Rec} (hri : rs[i]? = some ri) (hrj : rs[j]? = some rj) {id : Nat} (h1 : tch ri id = true) (h2 : tch rj id = true) : Before (befores ops []).reverse i j := by
  by_cases hb : Before (befores ops []).reverse i j
  · exact hb
  · have := (R.apart hj hi hb hri hrj).tch h1 (.inr (R.hilo hj hi hri hrj))
    rw [h2] at this; cases this

/-! ### What a set of operations has made of the heap -/
def tchAt (rs : List Rec) (id j : Nat) : Bool := tch (rs.getD j default) id
def Hs (rs : List Rec) (s' : St) (m : Nat) (S : Nat → Bool) (id : Nat) : Option AO :=
  match lastIn (fun j => S j && tchAt rs id j) m with
  | some j => (sAt rs s' (j + 1)).get id
  | none => (sAt rs s' 0).get id

theorem get_of {s t : St} {id : Nat} (h1 : s.hid = t.hid) (h2 : s.heap.get id = t.heap.get id) (h3 : Nat.blt id s.next = Nat.blt id t.next) : s.get id = t.get id := by
  unfold St.get
  rw [h1, h2, h3]

/-- who doesn't touch leaves as it is -/
theorem RegOk.keep (R : RegOk C call round ops l rs T0 T' s0 s') {i : Nat} (hi : i < ops.length) {id : Nat} (ht : tchAt rs id i = false) : (sAt rs s' (i + 1)).get id = (sAt rs s' i).get id := by
  obtain ⟨o, r, g, b, a1, a2, a3, a4, a5, a6, a7, a8⟩ := R.at_ hi
  obtain ⟨s1, s2, s3, s4, s5, s6, s7, s8, s9⟩ := a8.step R.callS R.roundS
  have e : rs.getD i default = r := by rw [List.getD_eq_getElem?_getD, a2]; rfl
  unfold tchAt at ht
  rw [e] at ht
  have h1 : ¬ (id ∈ r.t.wr ∨ (r.t.lo ≤ id ∧ id < r.t.hi)) := fun h => by rw [tch_iff.2 h] at ht; cases ht
  rw [← a7]
  by_cases hlt : id < r.s.next
  · refine get_of s3 (s9 id hlt fun h => h1 (.inl h)) ?_
    rw [blt_iff, blt_iff, decide_eq_true hlt, decide_eq_true (Nat.lt_of_lt_of_le hlt s6)]
  · have h2 : ¬ id < (sAt rs s' (i + 1)).next := fun h => h1 (.inr ⟨by omega, by omega⟩)
    unfold St.get
    rw [blt_iff, blt_iff, decide_eq_false hlt, decide_eq_false h2]

theorem RegOk.height (R : RegOk C call round ops l rs T0 T' s0 s') (id : Nat) : ∀ {i : Nat}, i ≤ ops.length → (sAt rs s' i).get id = Hs rs s' i (fun _ => true) id
  | 0, _ => rfl
  | i + 1, hi => by
    unfold Hs lastIn
    simp only [Bool.true_and]
    cases h : tchAt rs id i with
    | true => simp
    | false =>
      simp only [Bool.false_eq_true, if_false]
      rw [R.keep (by omega) h, R.height id (i := i) (by omega)]
      unfold Hs
      simp only [Bool.true_and]

theorem Hs_congr {m n : Nat} {S S' : Nat → Bool} {id : Nat} (h : ∀ j, (j < m ∧ S j = true ∧ tchAt rs id j = true) ↔ (j < n ∧ S' j = true ∧ tchAt rs id j = true)) : Hs rs s' m S id = Hs rs s' n S' id := by
  unfold Hs
  rw [lastIn_congr (p := fun j => S j && tchAt rs id j) (q := fun j => S' j && tchAt rs id j) (m := m) (n := n)]
  intro j
  simp only [Bool.and_eq_true]
  exact h j

/-! ### What a set of operations has made of the temporaries -/
def Ts (l : List AOper) (rs : List Rec) (T0 : Tmps) (S : Nat → Bool) : Nat → Tmps
  | 0 => T0
  | n + 1 => match S n with
    | true => (Ts l rs T0 S n).putO (l.getD n default).dst (rs.getD n default).v
    | false => Ts l rs T0 S n
def wrT (l : List AOper) (n t j : Nat) : Bool := decide ((l.getD j default).dst = some t) && Nat.blt t n

theorem Tmps.n_putO (T : Tmps) (i : Option Nat) (v : AV) : (T.putO i v).n = T.n := by
  cases i with
  | none => rfl
  | some i => exact Tmps.n_put T i v
theorem Ts_n {S : Nat → Bool} : ∀ m, (Ts l rs T0 S m).n = T0.n
  | 0 => rfl
  | m + 1 => by
    unfold Ts
    split
    · rw [Tmps.n_putO, Ts_n m]
    · exact Ts_n m
theorem Tmps.get_putO (T : Tmps) (i : Option Nat) (v : AV) (t : Nat) : (T.putO i v).get t = if decide (i = some t) && Nat.blt t T.n then v else T.get t := by
  cases i with
  | none => simp [Tmps.putO]
  | some i =>
    show (T.put i v).get t = _
    rw [Tmps.get_put, blt_iff]
    by_cases h : t = i
    · subst h; simp
    · have : i ≠ t := fun e => h e.symm
      simp [h, this]
theorem Ts_get {S : Nat → Bool} (t : Nat) : ∀ m, (Ts l rs T0 S m).get t = match lastIn (fun j => S j && wrT l T0.n t j) m with
    | some j => (rs.getD j default).v
    | none => T0.get t
  | 0 => rfl
  | m + 1 => by
    unfold Ts lastIn
    cases hS : S m with
    | false => simp only [Bool.false_and, Bool.false_eq_true, if_false]; exact Ts_get t m
    | true =>
      simp only [Bool.true_and]
      rw [Tmps.get_putO, Ts_n]
      unfold wrT
      split
      · rfl
      · exact Ts_get t m

theorem RegOk.tmps (R : RegOk C call round ops l rs T0 T' s0 s') : ∀ {i : Nat}, i ≤ ops.length → TAt rs T' i = Ts l rs T0 (fun _ => true) i
  | 0, _ => R.TAt0
  | i + 1, hi => by
    obtain ⟨o, r, g, b, a1, a2, a3, a4, a5, a6, a7, a8⟩ := R.at_ (i := i) (by omega)
    obtain ⟨s1, _⟩ := a8.step R.callS R.roundS
    rw [s1, a6, R.tmps (by omega), show Ts l rs T0 (fun _ => true) (i + 1) = (Ts l rs T0 (fun _ => true) i).putO (l.getD i default).dst (rs.getD i default).v from rfl]
    rw [List.getD_eq_getElem?_getD, List.getD_eq_getElem?_getD, a5, a2]
    rfl
end

end Go.Qa
end

/- A region that draws its order: what an operation sees in its run is what the operations ahead of it have made, whichever they are. -/
section
namespace Go.Qa
variable {P : Program} {C : Ctx}

theorem hidden_iff : ∀ {l : List (Nat × Nat)} {x : Nat}, hidden l x = true ↔ ∃ e ∈ l, e.1 ≤ x ∧ x < e.2
  | [], x => by simp [hidden]
  | (a, b) :: l, x => by
    simp only [hidden, ble_iff, blt_iff, List.mem_cons]
    by_cases h1 : a ≤ x
    · rw [decide_eq_true h1]
      simp only
      by_cases h2 : x < b
      · rw [decide_eq_true h2]
        simp only [true_iff]
        exact ⟨(a, b), .inl rfl, h1, h2⟩
      · rw [decide_eq_false h2]
        simp only
        rw [hidden_iff]
        constructor
        · rintro ⟨e, h, h'⟩; exact ⟨e, .inr h, h'⟩
        · rintro ⟨e, h | h, h'⟩
          · subst h; exact absurd h'.2 h2
          · exact ⟨e, h, h'⟩
    · rw [decide_eq_false h1]
      simp only
      rw [hidden_iff]
      constructor
      · rintro ⟨e, h, h'⟩; exact ⟨e, .inr h, h'⟩
      · rintro ⟨e, h | h, h'⟩
        · subst h; exact absurd h'.1 h1
        · exact ⟨e, h, h'⟩
theorem hides_ok {sofar : List Touch} {n : Nat} {h : List (Nat × Nat)} {x : Nat} : ∀ {l : List Nat} {j : Nat} {u : Touch}, j ∈ l → sofar[n - 1 - j]? = some u → u.lo ≤ x → x < u.hi → hidden (hides sofar n l h) x = true
  | [], j, u, hj, _, _, _ => by cases hj
  | i :: l, j, u, hj, hu, h1, h2 => by
    simp only [hides, nth_eq]
    rcases List.mem_cons.1 hj with e | e
    · subst e
      rw [hu]
      simp only
      have : Nat.beq u.lo u.hi = false := by rw [beq_iff]; exact decide_eq_false (by omega)
      rw [this]
      simp only
      exact hidden_iff.2 ⟨(u.lo, u.hi), List.mem_cons_self, h1, h2⟩
    · have ih := hides_ok (l := l) (h := h) e hu h1 h2
      split
      · split
        · exact ih
        · rw [hidden_iff] at ih ⊢
          obtain ⟨q, hq, hh⟩ := ih
          exact ⟨q, List.mem_cons_of_mem _ hq, hh⟩
      · exact ih
theorem hides_new {sofar : List Touch} {n : Nat} {h : List (Nat × Nat)} {x : Nat} : ∀ {l : List Nat}, hidden (hides sofar n l h) x = true → hidden h x = true ∨ ∃ u ∈ sofar, u.lo ≤ x ∧ x < u.hi
  | [], hh => .inl hh
  | j :: l, hh => by
    simp only [hides, nth_eq] at hh
    split at hh
    · rename_i u hu
      split at hh
      · exact hides_new hh
      · rw [hidden_iff] at hh
        obtain ⟨q, hq, h'⟩ := hh
        rcases List.mem_cons.1 hq with e | e
        · subst e; exact .inr ⟨u, List.mem_of_getElem? hu, h'⟩
        · exact hides_new (hidden_iff.2 ⟨q, e, h'⟩)
    · exact hides_new hh

/-- what reads one block makes none -/
theorem one_makes_none {o : AOp} {T : Tmps} {x : Nat} {s s' : St} {nx : ANext} (h : readsOf o T = some [x]) (ho : opA o T s = some (nx, s')) : s'.next = s.next := by
  cases o
  case load z y =>
    simp only [opA, op_load] at ho
    split at ho <;> first | (cases ho; done) | skip
    split at ho <;> first | (cases ho; done) | skip
    have := val?_st ho; subst this; rfl
  case store z y v =>
    simp only [opA, op_store] at ho
    split at ho <;> first | (cases ho; done) | skip
    split at ho <;> first | (cases ho; done) | skip
    split at ho <;> first | (cases ho; done) | skip
    split at ho <;> first | (cases ho; done) | skip
    have := some_st ho; subst this; rfl
  case conv c y =>
    simp only [opA, op_conv] at ho
    split at ho <;> first | (cases ho; done) | skip
    case h_6 he =>
      simp only [readsOf] at h
      rw [he] at h
      simp [idOf] at h
    all_goals (repeat' split at ho)
    all_goals first | (cases ho; done) | (have := val_st ho; subst this; rfl)
  all_goals simp only [readsOf] at h
  all_goals first | (cases h; done) | (simp at h; done)
theorem one_makes_none' {call round : Call} {o : AOp} {T : Tmps} {x : Nat} {s s' : St} {v : AV} (h : readsOf o T = some [x]) (ho : doOp call round o T s = some (v, s')) : s'.next = s.next := by
  unfold doOp at ho
  split at ho <;> first | (cases ho; done) | skip
  · rename_i hop
    have := some_st ho; subst this
    exact one_makes_none h hop
  all_goals
    rename_i hop
    exfalso
    cases o
    case call f l => simp [readsOf] at h
    all_goals simp only [opA, op_mv, op_pick, op_new, op_box, op_build, op_buildS, op_load, op_store, op_nilck, op_bin, op_eq, op_un, op_conv, op_s2ap, op_mkfn, op_mkmap, op_mksl, op_slStr, op_slSl, op_slArr, op_faddr, op_field, op_iaddrA, op_iaddrS, op_indexA, op_indexS, op_lookup, op_mapup, op_extract, op_append, op_appendZ, op_copy, op_lenS, op_lenStr, op_lenA, op_lenM, op_capS, op_clearM, op_clearS, op_delete, op_min2, op_max2, op_sdata, op_ustr, val, val?] at hop
    all_goals (repeat' split at hop)
    all_goals first | (cases hop; done) | (simp at hop; done)

section
variable {call round : Call} {ops : List Oper} {l : List AOper} {rs : List Rec} {T0 T' : Tmps} {s0 s' : St}

/-- what an operation sees is touched by none that nothing binds to it -/
theorem RegOk.unseen (R : RegOk C call round ops l rs T0 T' s0 s') {i j : Nat} (hi : i < ops.length) (hj : j < ops.length) (hne : i ≠ j) (h1 : ¬ Before (befores ops []).reverse i j) (h2 : ¬ Before (befores ops []).reverse j i)
    {oi : Oper} {ri rj : Rec} {b : Nat} (hoi : ops[i]? = some oi) (hb : (befores ops []).reverse[i]? = some b) (hri : rs[i]? = some ri) (hrj : rs[j]? = some rj) (hrd : ri.t.rd = readsOf (cOpB C oi.op) ri.T) {h : List (Nat × Nat)}
    (hh : hidFor (readsOf (cOpB C oi.op) ri.T) ((rs.take i).map (·.t)).reverse i (if isFree (cOpB C oi.op) then [] else unosOf ((ops.map fun o => cOpB C o.op).map isFree) b i) ri.s = some h)
    {id : Nat} (hlt : id < ri.s.next) (hv : hidden h id = false) : tch rj id = false := by
  have hap : Apart ri.t rj.t := by
    rcases Nat.lt_or_gt_of_ne hne with e | e
    · exact (R.apart e hj h2 hrj hri).symm
    · exact R.apart e hi h1 hri hrj
  obtain ⟨q1, q2, q3, q4⟩ := R.lohi hi hri
  have hs : ri.s = sAt rs s' i := by simp [sAt, hri]
  rw [← hs] at q1
  cases ht : tch rj id with
  | false => rfl
  | true =>
    exfalso
    unfold hidFor at hh
    split at hh
    · injection hh with hh; subst hh
      have : hidden ((0, ri.s.next) :: ri.s.hid) id = true := hidden_iff.2 ⟨_, List.mem_cons_self, Nat.zero_le _, hlt⟩
      rw [this] at hv; cases hv
    · rename_i x hx
      injection hh with hh; subst hh
      have hid : id = x := by
        rcases Nat.lt_trichotomy id x with e | e | e
        · have : hidden ((0, x) :: (Nat.succ x, ri.s.next) :: ri.s.hid) id = true := hidden_iff.2 ⟨_, List.mem_cons_self, Nat.zero_le _, e⟩
          rw [this] at hv; cases hv
        · exact e
        · have : hidden ((0, x) :: (Nat.succ x, ri.s.next) :: ri.s.hid) id = true := hidden_iff.2 ⟨_, List.mem_cons_of_mem _ List.mem_cons_self, e, hlt⟩
          rw [this] at hv; cases hv
      subst hid
      rw [hx] at hrd
      rcases tch_iff.1 ht with h3 | h3
      · refine hap.rw _ h3 ?_
        rw [hrd]
        exact List.mem_cons_self
      · exact hap.ro _ hrd id List.mem_cons_self h3
    · cases hh
    · rename_i hx
      injection hh with hh; subst hh
      rw [hx] at hrd
      rcases tch_iff.1 ht with h3 | h3
      · exact hap.rw _ h3 (by rw [hrd]; trivial)
      · rcases Nat.lt_or_gt_of_ne hne with e | e
        · have := R.hilo e hj hrj hri
          omega
        · have hnf : isFree (cOpB C oi.op) ≠ true := fun hf => by rw [reads_free hf] at hx; cases hx
          rw [if_neg hnf] at hv
          obtain ⟨oj, rj', gj, bj, c1, c2, c3, c4, c5, c6, c7, c8⟩ := R.at_ hj
          rw [c2] at hrj; injection hrj with hrj; subst hrj
          have hm : j ∈ unosOf ((ops.map fun o => cOpB C o.op).map isFree) b i := by
            refine mem_unos.2 ⟨e, ?_, ?_⟩
            · cases hbit : b.testBit j with
              | false => rfl
              | true => exact absurd ⟨b, hb, hbit⟩ h1
            · rw [List.getD_eq_getElem?_getD, List.getElem?_map, List.getElem?_map, c1]
              simp only [Option.map_some, Option.getD_some]
              cases hf : isFree (cOpB C oj.op) with
              | false => rfl
              | true =>
                obtain ⟨e1, e2, e3⟩ := c8.free (.inr hf)
                omega
          have := hides_ok (h := ri.s.hid) hm (by rw [sofar_at (by rw [R.rlen]; omega) e, c2]; rfl) h3.1 h3.2
          rw [this] at hv; cases hv

/-- a set of operations that holds all to which its own are bound -/
def Closed (bs : List Nat) (S : Nat → Bool) : Prop := ∀ i, S i = true → ∀ j, Before bs i j → S j = true
def upd (S : Nat → Bool) (i j : Nat) : Bool := S j || Nat.beq j i

theorem upd_self (S : Nat → Bool) (i : Nat) : upd S i i = true := by unfold upd; rw [beq_iff]; simp
theorem upd_ne {S : Nat → Bool} {i j : Nat} (h : j ≠ i) : upd S i j = S j := by unfold upd; rw [beq_iff, decide_eq_false h, Bool.or_false]
theorem upd_of {S : Nat → Bool} {i j : Nat} (h : S j = true) : upd S i j = true := by unfold upd; rw [h]; rfl
theorem upd_iff {S : Nat → Bool} {i j : Nat} : upd S i j = true ↔ S j = true ∨ j = i := by
  unfold upd; rw [Bool.or_eq_true, beq_iff, decide_eq_true_eq]

/-- what an operation sees in its run -/
theorem RegOk.vis (R : RegOk C call round ops l rs T0 T' s0 s') {S : Nat → Bool} {i : Nat} (hi : i < ops.length) (hS : S i = false) (hp : ∀ j, Before (befores ops []).reverse i j → S j = true) (hcl : Closed (befores ops []).reverse S)
    {oi : Oper} {ri : Rec} {b : Nat} (hoi : ops[i]? = some oi) (hb : (befores ops []).reverse[i]? = some b) (hri : rs[i]? = some ri) (hrd : ri.t.rd = readsOf (cOpB C oi.op) ri.T) {h : List (Nat × Nat)}
    (hh : hidFor (readsOf (cOpB C oi.op) ri.T) ((rs.take i).map (·.t)).reverse i (if isFree (cOpB C oi.op) then [] else unosOf ((ops.map fun o => cOpB C o.op).map isFree) b i) ri.s = some h)
    {id : Nat} {o : AO} (hg : St.get ⟨ri.s.heap, ri.s.next, ri.s.next, [], h⟩ id = some o) : Hs rs s' ops.length S id = some o := by
  have hne : St.get ⟨ri.s.heap, ri.s.next, ri.s.next, [], h⟩ id ≠ none := by rw [hg]; simp
  obtain ⟨hlt, hv⟩ := get_lt hne
  simp only at hlt hv
  have hs : ri.s = sAt rs s' i := by simp [sAt, hri]
  have hv0 := hidFor_sub hh id hv
  have : ri.s.get id = some o := by
    unfold St.get at hg ⊢
    simp only at hg
    rw [hv] at hg
    rw [hv0]
    exact hg
  rw [hs, R.height id (Nat.le_of_lt hi)] at this
  rw [← this]
  refine Hs_congr fun j => ?_
  have getr : ∀ j, j < ops.length → ∃ rj, rs[j]? = some rj ∧ tchAt rs id j = tch rj id := fun j hj => by
    have hl : j < rs.length := by rw [R.rlen]; exact hj
    refine ⟨rs[j], by simp [hl], ?_⟩
    unfold tchAt
    rw [List.getD_eq_getElem?_getD]
    simp [hl]
  constructor
  · rintro ⟨h1, h2, h3⟩
    by_cases e : j = i
    · subst e; rw [hS] at h2; cases h2
    · obtain ⟨rj, hrj, ht⟩ := getr j h1
      rw [ht] at h3
      by_cases hlt' : j < i
      · exact ⟨hlt', rfl, by rw [ht]; exact h3⟩
      · by_cases hbf : Before (befores ops []).reverse j i
        · have := hcl j h2 i hbf
          rw [hS] at this; cases this
        · have hbf2 : ¬ Before (befores ops []).reverse i j := fun hx => by
            -- nothing is bound behind a later one
            obtain ⟨b', hb', hbit⟩ := hx
            obtain ⟨e, he, h7, h8, h9⟩ := before_edge R.back hoi ⟨b', hb', hbit⟩
            have : j < i := by
              clear hp
              have key : ∀ n k, Before (befores ops []).reverse n k → n < ops.length → k < n := by
                intro n
                induction n using Nat.strongRecOn with
                | ind n ih =>
                  intro k hk hn
                  obtain ⟨on, hon⟩ : ∃ on, ops[n]? = some on := ⟨ops[n], by simp [hn]⟩
                  obtain ⟨e, he, h7, h8, h9⟩ := before_edge R.back hon hk
                  rcases h9 with h9 | h9
                  · omega
                  · exact Nat.lt_trans (ih e.on h8 k h9 (by omega)) h8
              exact key i j ⟨b', hb', hbit⟩ hi
            exact hlt' this
          have := R.unseen hi h1 (fun e' => e e'.symm) hbf2 hbf hoi hb hri hrj hrd hh hlt hv
          rw [this] at h3; cases h3
  · rintro ⟨h1, _, h3⟩
    have hj : j < ops.length := Nat.lt_trans h1 hi
    obtain ⟨rj, hrj, ht⟩ := getr j hj
    refine ⟨hj, ?_, h3⟩
    by_cases hbf : Before (befores ops []).reverse i j
    · exact hp j hbf
    · have hbf2 : ¬ Before (befores ops []).reverse j i := fun hx => by
        have key : ∀ n k, Before (befores ops []).reverse n k → n < ops.length → k < n := by
          intro n
          induction n using Nat.strongRecOn with
          | ind n ih =>
            intro k hk hn
            obtain ⟨on, hon⟩ : ∃ on, ops[n]? = some on := ⟨ops[n], by simp [hn]⟩
            obtain ⟨e, he, h7, h8, h9⟩ := before_edge R.back hon hk
            rcases h9 with h9 | h9
            · omega
            · exact Nat.lt_trans (ih e.on h8 k h9 (by omega)) h8
        have := key j i hx hj
        omega
      have := R.unseen hi hj (fun e => by omega) hbf hbf2 hoi hb hri hrj hrd hh hlt hv
      rw [ht, this] at h3; cases h3

/-- what an operation touched is seen behind it as it saw it -/
theorem RegOk.seen (R : RegOk C call round ops l rs T0 T' s0 s') {i : Nat} (hi : i < ops.length)
    {oi : Oper} {ri : Rec} {b : Nat} (hoi : ops[i]? = some oi) (hri : rs[i]? = some ri) {h : List (Nat × Nat)} {s2 : St}
    (hh : hidFor (readsOf (cOpB C oi.op) ri.T) ((rs.take i).map (·.t)).reverse i (if isFree (cOpB C oi.op) then [] else unosOf ((ops.map fun o => cOpB C o.op).map isFree) b i) ri.s = some h)
    (hd : doOp call round (cOpB C oi.op) ri.T ⟨ri.s.heap, ri.s.next, ri.s.next, [], h⟩ = some (ri.v, s2)) (ht : ri.t = ⟨readsOf (cOpB C oi.op) ri.T, s2.wr, ri.s.next, s2.next⟩)
    (h1 : sAt rs s' (i + 1) = ⟨s2.heap, s2.next, ri.s.base, noteAll ri.s s2.wr, ri.s.hid⟩) {id : Nat} (htc : tchAt rs id i = true) : (sAt rs s' (i + 1)).get id = s2.get id := by
  have a := doOp_step R.callS R.roundS (Nat.le_refl _) hd
  have e : rs.getD i default = ri := by rw [List.getD_eq_getElem?_getD, hri]; rfl
  unfold tchAt at htc
  rw [e] at htc
  rw [h1]
  unfold St.get
  simp only
  have hhid : s2.hid = h := a.hid
  rw [hhid]
  have key : hidden ri.s.hid id = hidden h id := by
    rcases tch_iff.1 htc with hw | hw
    · rw [ht] at hw
      simp only at hw
      rcases a.seen id hw with h2 | h2
      · cases h2
      · rw [h2, hidFor_sub hh id h2]
    · rw [ht] at hw
      simp only at hw
      cases hx : hidden h id with
      | false => exact hidFor_sub hh id hx
      | true =>
        have hh' := hh
        unfold hidFor at hh
        split at hh
        · injection hh with hh; subst hh
          obtain ⟨q, hq, h3⟩ := hidden_iff.1 hx
          rcases List.mem_cons.1 hq with e' | e'
          · subst e'; simp only at h3; omega
          · exact hidden_iff.2 ⟨q, e', h3⟩
        · rename_i x hr
          have := one_makes_none' hr hd
          simp only at this
          omega
        · cases hh
        · injection hh with hh; subst hh
          rcases hides_new hx with h3 | ⟨u, hu, h3⟩
          · exact h3
          · exfalso
            rw [List.mem_reverse] at hu
            obtain ⟨rk, hk, rfl⟩ := List.mem_map.1 hu
            obtain ⟨k, hk1⟩ := List.getElem?_of_mem hk
            rw [List.getElem?_take] at hk1
            split at hk1
            · rename_i hki
              have := R.hilo hki hi hri hk1
              rw [ht] at this
              simp only at this
              omega
            · cases hk1
  rw [key]
end

end Go.Qa
end

/- A region that draws its order: what holds behind a set of its operations, whichever they are, and how one more is done. -/
section
namespace Go.Qa
variable {P : Program} {C : Ctx}

section
variable {call round : Call} {ops : List Oper} {l : List AOper} {rs : List Rec} {T0 T' : Tmps} {s0 s' : St}

abbrev tt (rs : List Rec) (j : Nat) : Touch := (rs.getD j default).t

structure Inv (C : Ctx) (ops : List Oper) (l : List AOper) (rs : List Rec) (T0 : Tmps) (s0 s' : St) (σ0 : Sig) (w0 : World) (a0 : Act) (S : Nat → Bool) (σ : Sig) (w : World) (a : Act) : Prop where
  sub : ∀ id p, σ0 id = some p → σ id = some p
  new : ∀ id p, σ id = some p → σ0 id = none → ∃ j, j < ops.length ∧ S j = true ∧ (tt rs j).lo ≤ id ∧ id < (tt rs j).hi
  rel : HRel C σ (Hs rs s' ops.length S) w
  tmps : TRel σ (Ts l rs T0 S ops.length) a.tmps
  size : w0.heap.size ≤ w.heap.size
  frame : ∀ b, b < w0.heap.size → (∀ id p, σ0 id = some p → p.block = b → s0.get id ≠ none → id < s0.base ∧ ∀ j, j < ops.length → S j = true → id ∉ (tt rs j).wr) → w.heap[b]? = w0.heap[b]?
  fresh : ∀ id p, σ id = some p → σ0 id = none → p.block < w.heap.size ∧
    (w0.heap.size ≤ p.block ∨ ∃ id0 p0, σ0 id0 = some p0 ∧ p0.block = p.block ∧ s0.get id0 ≠ none ∧ (id0 < s0.base → ∃ j, j < ops.length ∧ S j = true ∧ id0 ∈ (tt rs j).wr))
  os : w.os = w0.os
  tape : w.tape = w0.tape
  output : w.output = w0.output
  kept : ∀ id, Hs rs s' ops.length S id ≠ none → s0.get id ≠ none ∨ ∃ j, j < ops.length ∧ S j = true ∧ (tt rs j).lo ≤ id ∧ id < (tt rs j).hi
  defers : a.defers = a0.defers

theorem Hs_none {m : Nat} : Hs rs s' m (fun _ => false) = (sAt rs s' 0).get := by
  funext id
  unfold Hs
  rw [lastIn_of_none (fun i _ => by simp)]
theorem Ts_none : ∀ m, Ts l rs T0 (fun _ => false) m = T0
  | 0 => rfl
  | m + 1 => Ts_none m

theorem Inv.init (R : RegOk C call round ops l rs T0 T' s0 s') {σ0 : Sig} {w0 : World} {a0 : Act} (h : HRel C σ0 s0.get w0) (ht : TRel σ0 T0 a0.tmps) : Inv C ops l rs T0 s0 s' σ0 w0 a0 (fun _ => false) σ0 w0 a0 where
  sub := fun _ _ h => h
  new := fun _ _ h h' => by rw [h] at h'; cases h'
  rel := by rw [Hs_none, R.sAt0]; exact h
  tmps := by rw [Ts_none]; exact ht
  size := Nat.le_refl _
  frame := fun _ _ _ => rfl
  fresh := fun _ _ h h' => by rw [h] at h'; cases h'
  os := rfl
  tape := rfl
  output := rfl
  kept := fun id h => by rw [Hs_none, R.sAt0] at h; exact .inl h
  defers := rfl

/-- all writes of the region's operations lie in the state's own note behind it -/
theorem RegOk.noted (R : RegOk C call round ops l rs T0 T' s0 s') : ∀ {i : Nat}, i ≤ ops.length → (∀ x ∈ s0.wr, x ∈ (sAt rs s' i).wr) ∧ ∀ j, j < i → ∀ x ∈ (tt rs j).wr, x < s0.base → x ∈ (sAt rs s' i).wr
  | 0, _ => by rw [R.sAt0]; exact ⟨fun _ h => h, fun j hj => by omega⟩
  | i + 1, hi => by
    obtain ⟨o, r, g, b, a1, a2, a3, a4, a5, a6, a7, a8⟩ := R.at_ (i := i) (by omega)
    obtain ⟨s1, s2, s3, s4, s5, s6, s7, s8, s9⟩ := a8.step R.callS R.roundS
    obtain ⟨n1, n2⟩ := R.noted (i := i) (by omega)
    have hb := (R.mono (i := i) (by omega)).1
    rw [a7] at s8
    refine ⟨fun x hx => (s8 x).2 (.inl (n1 x hx)), fun j hj x hx hlt => ?_⟩
    by_cases e : j = i
    · subst e
      have e : tt rs j = r.t := by unfold tt; rw [List.getD_eq_getElem?_getD, a2]; rfl
      rw [e] at hx
      exact (s8 x).2 (.inr ⟨hx, by rw [hb]; exact hlt⟩)
    · exact (s8 x).2 (.inl (n2 j (by omega) x hx hlt))

theorem Inv.final (R : RegOk C call round ops l rs T0 T' s0 s') {σ0 : Sig} {w0 : World} {a0 : Act} {S : Nat → Bool} {σ : Sig} {w : World} {a : Act} (I : Inv C ops l rs T0 s0 s' σ0 w0 a0 S σ w a) (hS : ∀ j, j < ops.length → S j = true) :
    Done C σ0 s0 w0 a0 T' s' a w := by
  have hH : Hs rs s' ops.length S = s'.get := by
    funext id
    rw [← R.sAtEnd (rs := rs), R.height id (Nat.le_refl _), R.sAtEnd]
    exact Hs_congr fun j => ⟨fun ⟨h1, _, h3⟩ => ⟨h1, rfl, h3⟩, fun ⟨h1, _, h3⟩ => ⟨h1, hS j h1, h3⟩⟩
  have hT : ∀ t, (Ts l rs T0 S ops.length).get t = T'.get t := fun t => by
    rw [← R.TAtEnd, R.tmps (Nat.le_refl _), Ts_get, Ts_get]
    rw [lastIn_congr (p := fun j => S j && wrT l T0.n t j) (q := fun j => true && wrT l T0.n t j) (m := ops.length) (n := ops.length)]
    intro j
    simp only [Bool.and_eq_true, Bool.true_and]
    exact ⟨fun ⟨h1, _, h3⟩ => ⟨h1, h3⟩, fun ⟨h1, h3⟩ => ⟨h1, hS j h1, h3⟩⟩
  have hn : ∀ id, s'.get id ≠ none → s0.get id ≠ none ∨ (s0.next ≤ id ∧ id < s'.next) := fun id h => by
    rw [← hH] at h
    rcases I.kept id h with h | ⟨j, hj, _, h1, h2⟩
    · exact .inl h
    · have hr : rs[j]? = some (rs.getD j default) := by
        have : j < rs.length := by rw [R.rlen]; exact hj
        rw [List.getD_eq_getElem?_getD]; simp [this]
      obtain ⟨q1, q2, q3, q4⟩ := R.lohi hj hr
      have m1 := (R.mono (i := j) (Nat.le_of_lt hj)).2.2
      have m2 := R.next_mono (i := j + 1) (j := ops.length) (by omega) (Nat.le_refl _)
      rw [R.sAtEnd] at m2
      unfold tt at h1 h2
      exact .inr ⟨by omega, by omega⟩
  have hm := R.mono (Nat.le_refl ops.length)
  rw [R.sAtEnd] at hm
  have hw := R.noted (Nat.le_refl ops.length)
  rw [R.sAtEnd] at hw
  refine ⟨σ, ⟨⟨I.sub, fun id p h h0 => ?_⟩, by rw [← hH]; exact I.rel, I.size, fun b hb H => I.frame b hb fun id p h1 h2 h3 => ?_, fun id p h h0 => ?_, hm.2.2, hm.1, hm.2.1, hw.1, I.os, I.tape, I.output, hn⟩, ⟨?_, fun i => ?_⟩, I.defers⟩
  · obtain ⟨j, hj, _, h1, h2⟩ := I.new id p h h0
    have hr : rs[j]? = some (rs.getD j default) := by
      have : j < rs.length := by rw [R.rlen]; exact hj
      rw [List.getD_eq_getElem?_getD]; simp [this]
    obtain ⟨q1, q2, q3, q4⟩ := R.lohi hj hr
    have m1 := (R.mono (i := j) (Nat.le_of_lt hj)).2.2
    have m2 := R.next_mono (i := j + 1) (j := ops.length) (by omega) (Nat.le_refl _)
    rw [R.sAtEnd] at m2
    unfold tt at h1 h2
    exact ⟨by omega, by omega⟩
  · obtain ⟨h4, h5⟩ := H id p h1 h2 h3
    exact ⟨h4, fun j hj _ hx => h5 (hw.2 j hj id hx h4)⟩
  · obtain ⟨h1, h2⟩ := I.fresh id p h h0
    refine ⟨h1, h2.imp (fun h => h) ?_⟩
    rintro ⟨id0, p0, e0, e1, e2, e3⟩
    exact ⟨id0, p0, e0, e1, e2, fun hlt => by obtain ⟨j, hj, _, hx⟩ := e3 hlt; exact hw.2 j hj id0 hx hlt⟩
  · rw [← I.tmps.size, Ts_n, ← R.TAtEnd, R.tmps (Nat.le_refl _), Ts_n]
  · rw [← hT i]; exact I.tmps.at_ i

/-- one more operation -/
theorem Inv.step (R : RegOk C call round ops l rs T0 T' s0 s') {σ0 : Sig} {w0 : World} {a0 : Act} {S : Nat → Bool} {σ σ' : Sig} {w w' : World} {a : Act} (I : Inv C ops l rs T0 s0 s' σ0 w0 a0 S σ w a)
    {i : Nat} (hi : i < ops.length) (hS : S i = false) (hcl : Closed (befores ops []).reverse S) (hp : ∀ j, Before (befores ops []).reverse i j → S j = true) {o : Oper} (ho : ops[i]? = some o) {sI s2 : St} {c : Value}
    (hσ : ∀ id, s0.next ≤ id → id < s'.next → σ0 id = none)
    (e1 : sI.next = (tt rs i).lo) (e2 : sI.base = sI.next) (e4 : s2.next = (tt rs i).hi) (e5 : s2.wr = (tt rs i).wr) (vis : ∀ id x, sI.get id = some x → Hs rs s' ops.length S id = some x)
    (tc : ∀ id, tchAt rs id i = true → (sAt rs s' (i + 1)).get id = s2.get id) (hP : Post C σ sI w σ' s2 w') (hv : VRel σ' (rs.getD i default).v c) :
    Inv C ops l rs T0 s0 s' σ0 w0 a0 (upd S i) σ' w' (a.put o.dst c) := by
  obtain ⟨oi, ri, g, b, a1, a2, a3, a4, a5, a6, a7, a8⟩ := R.at_ hi
  rw [ho] at a1; injection a1 with a1; subst a1
  have er : rs.getD i default = ri := by rw [List.getD_eq_getElem?_getD, a2]; rfl
  have et : tt rs i = ri.t := by unfold tt; rw [er]
  rw [et] at e1 e4 e5
  rw [er] at hv
  have getr : ∀ j, j < ops.length → rs[j]? = some (rs.getD j default) := fun j hj => by
    have : j < rs.length := by rw [R.rlen]; exact hj
    rw [List.getD_eq_getElem?_getD]; simp [this]
  -- what is touched by one of the set, and by this one
  have both : ∀ id j, j < ops.length → S j = true → tchAt rs id j = true → tchAt rs id i = true → j < i := fun id j hj hSj h1 h2 => by
    rcases Nat.lt_trichotomy j i with e | e | e
    · exact e
    · subst e; rw [hS] at hSj; cases hSj
    · have := hcl j hSj i (R.bound e hj (getr j hj) a2 h1 (by unfold tchAt at h2; rw [er] at h2; exact h2))
      rw [hS] at this; cases this
  have H1 : ∀ id, tchAt rs id i = true → Hs rs s' ops.length (upd S i) id = s2.get id := fun id ht => by
    rw [← tc id ht]
    unfold Hs
    rw [lastIn_of (p := fun j => upd S i j && tchAt rs id j) hi (by rw [upd_self, ht]; rfl) (fun k hk hk2 => ?_)]
    have hne : k ≠ i := by omega
    show (upd S i k && tchAt rs id k) = false
    rw [upd_ne hne]
    cases h1 : S k with
    | false => rfl
    | true =>
      cases h2 : tchAt rs id k with
      | false => rfl
      | true => have := both id k hk2 h1 h2 ht; omega
  have H2 : ∀ id, tchAt rs id i = false → Hs rs s' ops.length (upd S i) id = Hs rs s' ops.length S id := fun id ht => by
    refine Hs_congr fun j => ?_
    by_cases e : j = i
    · subst e; rw [ht]; simp
    · rw [upd_ne e]
  have tI : ∀ id, tchAt rs id i = true ↔ id ∈ ri.t.wr ∨ (ri.t.lo ≤ id ∧ id < ri.t.hi) := fun id => by
    unfold tchAt; rw [er]; exact tch_iff
  have live : ∀ id, sI.get id ≠ none → Hs rs s' ops.length S id ≠ none := fun id h => by
    cases hx : sI.get id with
    | none => exact absurd hx h
    | some x => rw [vis id x hx]; simp
  have low : ∀ id, sI.get id ≠ none → id < ri.t.lo := fun id h => by rw [← e1]; exact (get_lt h).1
  have wlo := (R.lohi hi a2).2.2.2
  have mI := (R.mono (i := i) (Nat.le_of_lt hi)).2.2
  have mE : ri.t.hi ≤ s'.next := by
    have := R.next_mono (i := i + 1) (j := ops.length) (by omega) (Nat.le_refl _)
    rw [R.sAtEnd, ← (R.lohi hi a2).2.1] at this
    exact this
  have hlo : s0.next ≤ ri.t.lo := by rw [(R.lohi hi a2).1]; exact mI
  -- a live one of the run's start that had its place at the very start lived there
  have old : ∀ id p, σ0 id = some p → sI.get id ≠ none → s0.get id ≠ none := fun id p hp0 hg => by
    rcases I.kept id (live id hg) with h | ⟨j, hj, _, h1, h2⟩
    · exact h
    · exfalso
      obtain ⟨q1, q2, q3, q4⟩ := R.lohi hj (getr j hj)
      have m1 := (R.mono (i := j) (Nat.le_of_lt hj)).2.2
      have m2 := R.next_mono (i := j + 1) (j := ops.length) (by omega) (Nat.le_refl _)
      rw [R.sAtEnd] at m2
      unfold tt at h1 h2
      rw [hσ id (by omega) (by omega)] at hp0
      cases hp0
  refine ⟨fun id p h => hP.ext.sub id p (I.sub id p h), fun id p h h0 => ?_, ⟨fun id x hx => ?_, fun x y p q hx hy hne hpx hqy => ?_⟩, ⟨?_, fun t => ?_⟩, Nat.le_trans I.size hP.size, fun b hb H => ?_, fun id p h h0 => ?_,
    hP.os.trans I.os, hP.tape.trans I.tape, hP.output.trans I.output, fun id h => ?_, by rw [put_defers]; exact I.defers⟩
  · -- new
    cases h1 : σ id with
    | some q =>
      obtain ⟨j, hj, hSj, h2⟩ := I.new id q h1 h0
      exact ⟨j, hj, upd_of hSj, h2⟩
    | none =>
      have := hP.ext.new id p h h1
      exact ⟨i, hi, upd_self _ _, by rw [et]; omega⟩
  · -- obj
    cases ht : tchAt rs id i with
    | true => rw [H1 id ht] at hx; exact hP.rel.obj id x hx
    | false =>
      rw [H2 id ht] at hx
      obtain ⟨p, hp1, hr⟩ := I.rel.obj id x hx
      refine ⟨p, hP.ext.sub _ _ hp1, ?_⟩
      have hlt := hr.lt
      rw [hP.frame p.block hlt fun id' p' h1 h2 h3 => ?_]
      · exact hr.mono hP.ext.sub
      · have : id' = id := by
          refine Classical.byContradiction fun hne => ?_
          exact I.rel.apart id' id p' p (live _ h3) (by rw [hx]; simp) hne h1 hp1 h2
        subst this
        refine ⟨by rw [e2]; exact (get_lt h3).1, fun hm => ?_⟩
        rw [e5] at hm
        rw [(tI id').2 (.inl hm)] at ht
        cases ht
  · -- apart
    have key : ∀ x p, Hs rs s' ops.length (upd S i) x ≠ none → σ' x = some p → (tchAt rs x i = true ∧ s2.get x ≠ none) ∨ (tchAt rs x i = false ∧ Hs rs s' ops.length S x ≠ none ∧ σ x = some p ∧ p.block < w.heap.size) := fun x p hx hpx => by
      cases ht : tchAt rs x i with
      | true => exact .inl ⟨rfl, by rw [← H1 x ht]; exact hx⟩
      | false =>
        rw [H2 x ht] at hx
        obtain ⟨q, hq, hlt⟩ := I.rel.sig hx
        have := hP.ext.sub _ _ hq
        rw [hpx] at this; injection this with this; subst this
        exact .inr ⟨rfl, hx, hq, hlt⟩
    have mixed : ∀ x y p q, x ≠ y → σ' x = some p → tchAt rs x i = true → s2.get x ≠ none → tchAt rs y i = false → Hs rs s' ops.length S y ≠ none → σ y = some q → q.block < w.heap.size → p.block ≠ q.block := fun x y p q hne hpx htx hx hty hy hq hlt he => by
      rcases hP.kept x hx with h1 | ⟨h1, h2⟩
      · obtain ⟨p', hp', _⟩ := I.rel.sig (live x h1)
        have := hP.ext.sub _ _ hp'
        rw [hpx] at this; injection this with this; subst this
        exact I.rel.apart x y p q (live x h1) hy hne hp' hq he
      · cases h0 : σ x with
        | some p' =>
          have := hP.ext.sub _ _ h0
          rw [hpx] at this; injection this with this; subst this
          -- it had its place ahead of being made
          cases h00 : σ0 x with
          | some p'' => rw [hσ x (by omega) (by omega)] at h00; cases h00
          | none =>
            obtain ⟨j, hj, hSj, h3, h4⟩ := I.new x p h0 h00
            have hij : j ≠ i := fun e => by subst e; rw [hS] at hSj; cases hSj
            rcases Nat.lt_or_gt_of_ne hij with e | e
            · have := R.hilo e hi a2 (getr j hj)
              unfold tt at h4; omega
            · have := R.hilo e hj (getr j hj) a2
              unfold tt at h3; omega
        | none =>
          obtain ⟨_, h3 | ⟨id0, p0, f1, f2, f3, f4⟩⟩ := hP.fresh x p hpx h0
          · omega
          · have hm : id0 ∈ ri.t.wr := by rw [← e5]; exact f4 (by rw [e2]; exact (get_lt f3).1)
            have hn0 : id0 ≠ y := fun e => by subst e; rw [(tI id0).2 (.inl hm)] at hty; cases hty
            exact I.rel.apart id0 y p0 q (live _ f3) hy hn0 f1 hq (f2.trans he)
    rcases key x p hx hpx with ⟨b1, b2⟩ | ⟨b1, b2, b3, b4⟩ <;> rcases key y q hy hqy with ⟨c1, c2⟩ | ⟨c1, c2, c3, c4⟩
    · exact hP.rel.apart x y p q b2 c2 hne hpx hqy
    · exact mixed x y p q hne hpx b1 b2 c1 c2 c3 c4
    · exact fun e => mixed y x q p (Ne.symm hne) hqy c1 c2 b1 b2 b3 b4 e.symm
    · exact I.rel.apart x y p q b2 c2 hne b3 c3
  · -- tmps: how many
    rw [Ts_n]
    have := I.tmps.size
    rw [Ts_n] at this
    rw [this]
    cases o.dst with
    | none => rfl
    | some d => simp [Act.put]
  · -- tmps: what they hold
    have h1 := ((⟨I.tmps.size, fun t => (I.tmps.at_ t).mono hP.ext.sub⟩ : TRel σ' (Ts l rs T0 S ops.length) a.tmps).put hv o.dst).at_ t
    have h2 : (Ts l rs T0 (upd S i) ops.length).get t = ((Ts l rs T0 S ops.length).putO o.dst ri.v).get t := by
      rw [Tmps.get_putO, Ts_n, Ts_get]
      have hd : (l.getD i default).dst = o.dst := by rw [List.getD_eq_getElem?_getD, a5]; rfl
      cases hw : wrT l T0.n t i with
      | true =>
        have hw' := hw
        unfold wrT at hw
        rw [hd] at hw
        rw [hw]
        simp only [if_true]
        rw [lastIn_of (p := fun j => upd S i j && wrT l T0.n t j) hi (by rw [upd_self, hw']; rfl) (fun k hk hk2 => ?_)]
        · exact congrArg Rec.v er
        · have hne : k ≠ i := by omega
          show (upd S i k && wrT l T0.n t k) = false
          rw [upd_ne hne]
          cases h3 : S k with
          | false => rfl
          | true =>
            cases h4 : wrT l T0.n t k with
            | false => rfl
            | true =>
              exfalso
              by_cases hbf : Before (befores ops []).reverse k i
              · have := hcl k h3 i hbf
                rw [hS] at this; cases this
              · obtain ⟨ok, oi', n1, n2, n3, n4⟩ := R.names k i hk hk2 hbf
                rw [ho] at n2; injection n2 with n2; subst n2
                obtain ⟨ok', rk, gk, bk, d1, d2, d3, d4, d5, _⟩ := R.at_ hk2
                rw [d1] at n1; injection n1 with n1; subst n1
                have hdk : (l.getD k default).dst = ok'.dst := by rw [List.getD_eq_getElem?_getD, d5]; rfl
                unfold wrT at h4
                rw [hdk] at h4
                simp only [Bool.and_eq_true, decide_eq_true_eq] at h4 hw
                exact (n3 t hw.1).2 t h4.1 rfl
      | false =>
        have hw2 := hw
        unfold wrT at hw
        rw [hd] at hw
        rw [hw]
        simp only [Bool.false_eq_true, if_false]
        rw [Ts_get]
        rw [lastIn_congr (p := fun j => upd S i j && wrT l T0.n t j) (q := fun j => S j && wrT l T0.n t j) (m := ops.length) (n := ops.length)]
        intro j
        by_cases e : j = i
        · subst e; rw [hw2]; simp
        · rw [upd_ne e]
    rw [h2]; exact h1
  · -- frame
    rw [hP.frame b (Nat.lt_of_lt_of_le hb I.size) fun id p h1 h2 h3 => ?_]
    · exact I.frame b hb fun id p h1 h2 h3 => ⟨(H id p h1 h2 h3).1, fun j hj hSj => (H id p h1 h2 h3).2 j hj (upd_of hSj)⟩
    · refine ⟨by rw [e2]; exact (get_lt h3).1, ?_⟩
      rw [e5]
      cases h0 : σ0 id with
      | some p' =>
        have := I.sub id p' h0
        rw [h1] at this; injection this with this; subst this
        have := (H id p h0 h2 (old id p h0 h3)).2 i hi (upd_self _ _)
        rw [et] at this
        exact this
      | none =>
        obtain ⟨_, h4 | ⟨id0, p0, f1, f2, f3, f4⟩⟩ := I.fresh id p h1 h0
        · omega
        · obtain ⟨k1, k2⟩ := H id0 p0 f1 (f2.trans h2) f3
          obtain ⟨j, hj, hSj, hm⟩ := f4 k1
          exact absurd hm (k2 j hj (upd_of hSj))
  · -- fresh
    cases h1 : σ id with
    | some q =>
      have := hP.ext.sub id q h1
      rw [h] at this; injection this with this; subst this
      obtain ⟨f1, f2⟩ := I.fresh id p h1 h0
      refine ⟨Nat.lt_of_lt_of_le f1 hP.size, f2.imp (fun h => h) ?_⟩
      rintro ⟨id0, p0, k1, k2, k3, k4⟩
      exact ⟨id0, p0, k1, k2, k3, fun hh => by obtain ⟨j, hj, hSj, hm⟩ := k4 hh; exact ⟨j, hj, upd_of hSj, hm⟩⟩
    | none =>
      obtain ⟨f1, f2 | ⟨id0, p0, k1, k2, k3, k4⟩⟩ := hP.fresh id p h h1
      · exact ⟨f1, .inl (Nat.le_trans I.size f2)⟩
      · refine ⟨f1, ?_⟩
        have hm : id0 ∈ (tt rs i).wr := by rw [et, ← e5]; exact k4 (by rw [e2]; exact (get_lt k3).1)
        cases h2 : σ0 id0 with
        | some p' =>
          have := I.sub id0 p' h2
          rw [k1] at this; injection this with this; subst this
          exact .inr ⟨id0, p0, h2, k2, old id0 p0 h2 k3, fun _ => ⟨i, hi, upd_self _ _, hm⟩⟩
        | none =>
          obtain ⟨_, f3 | ⟨id1, p1, r1, r2, r3, r4⟩⟩ := I.fresh id0 p0 k1 h2
          · exact .inl (by rw [← k2]; exact f3)
          · exact .inr ⟨id1, p1, r1, r2.trans k2, r3, fun hh => by obtain ⟨j, hj, hSj, hm'⟩ := r4 hh; exact ⟨j, hj, upd_of hSj, hm'⟩⟩
  · -- kept
    cases ht : tchAt rs id i with
    | false =>
      rw [H2 id ht] at h
      exact (I.kept id h).imp (fun h => h) fun ⟨j, hj, hSj, h2⟩ => ⟨j, hj, upd_of hSj, h2⟩
    | true =>
      rw [H1 id ht] at h
      rcases hP.kept id h with h1 | ⟨h1, h2⟩
      · exact (I.kept id (live id h1)).imp (fun h => h) fun ⟨j, hj, hSj, h2⟩ => ⟨j, hj, upd_of hSj, h2⟩
      · exact .inr ⟨i, hi, upd_self _ _, by rw [et]; omega⟩
end

end Go.Qa
end

/- A region that draws its order: in whatever order, it comes to what the abstract run tells. -/
section
namespace Go.Qa
variable {P : Program} {C : Ctx} {F : Fence} {n : Nat}

theorem doOp_congr {call round : Call} {o : AOp} {T U : Tmps} (h : ∀ t ∈ namesA o, T.get t = U.get t) (s : St) : doOp call round o T s = doOp call round o U s := by
  unfold doOp
  rw [opA_congr h]

theorem count_set : ∀ {l : List Bool} {i : Nat}, l[i]? = some false → (l.set i true).count false + 1 = l.count false
  | [], i, h => by simp at h
  | b :: l, 0, h => by simp at h; subst h; simp
  | b :: l, i + 1, h => by
    have := count_set (l := l) (i := i) (by simpa using h)
    simp only [List.set_cons_succ, List.count_cons]
    omega

section
variable {call round : Call} {ops : List Oper} {l : List AOper} {rs : List Rec} {T0 T' : Tmps} {s0 s' : St}

/-- the temporaries that an operation reads hold what they held in the order of the text -/
theorem RegOk.names_at (R : RegOk C call round ops l rs T0 T' s0 s') {S : Nat → Bool} {i : Nat} (hi : i < ops.length) (hS : S i = false) (hp : ∀ j, Before (befores ops []).reverse i j → S j = true) (hcl : Closed (befores ops []).reverse S)
    {o : Oper} (ho : ops[i]? = some o) {t : Nat} (ht : t ∈ namesOf (ops.map (·.dst)) (cOpB C o.op) o.guard) : (Ts l rs T0 S ops.length).get t = (TAt rs T' i).get t := by
  rw [R.tmps (Nat.le_of_lt hi), Ts_get, Ts_get]
  have dst : ∀ j oj, ops[j]? = some oj → (l.getD j default).dst = oj.dst := fun j oj hoj => by
    obtain ⟨g, b, h1, h2, h3⟩ := R.row j oj hoj
    rw [List.getD_eq_getElem?_getD, h3]; rfl
  rw [lastIn_congr (p := fun j => S j && wrT l T0.n t j) (q := fun j => true && wrT l T0.n t j) (m := ops.length) (n := i)]
  intro j
  simp only [Bool.and_eq_true, Bool.true_and]
  constructor
  · rintro ⟨h1, h2, h3⟩
    refine ⟨?_, h3⟩
    rcases Nat.lt_trichotomy j i with e | e | e
    · exact e
    · subst e; rw [hS] at h2; cases h2
    · exfalso
      have hnb : ¬ Before (befores ops []).reverse j i := fun hb => by have := hcl j h2 i hb; rw [hS] at this; cases this
      obtain ⟨oj, oi, n1, n2, n3, n4⟩ := R.names j i e h1 hnb
      rw [ho] at n2; injection n2 with n2; subst n2
      unfold wrT at h3
      rw [dst j oj n1] at h3
      simp only [Bool.and_eq_true, decide_eq_true_eq] at h3
      exact n4 t h3.1 ht
  · rintro ⟨h1, h3⟩
    refine ⟨Nat.lt_trans h1 hi, ?_, h3⟩
    by_cases hb : Before (befores ops []).reverse i j
    · exact hp j hb
    · exfalso
      obtain ⟨oi, oj, n1, n2, n3, n4⟩ := R.names i j h1 hi hb
      rw [ho] at n1; injection n1 with n1; subst n1
      unfold wrT at h3
      rw [dst j oj n2] at h3
      simp only [Bool.and_eq_true, decide_eq_true_eq] at h3
      exact (n3 t h3.1).1 ht
end

theorem mem_guard {dsts : List (Option Nat)} {a : AOp} {g : Option (Nat × Bool)} {t : Nat} {wn : Bool} (h : cGuard dsts g = some (some (t, wn))) : t ∈ namesOf dsts a g := by
  unfold cGuard at h
  split at h
  · cases h
  · rename_i j w
    split at h <;> first | (cases h; done) | skip
    rename_i t' hd
    injection h with h; injection h with h; injection h with h1 h2
    subst h1
    unfold namesOf
    rw [List.mem_append]
    right
    simp only [hd]
    exact List.mem_cons_self
theorem guardOk_congr {dsts : List (Option Nat)} {a : AOp} {g : Option (Nat × Bool)} {g' : Option (Nat × Bool)} (h : cGuard dsts g = some g') {T U : Tmps} (hn : ∀ t ∈ namesOf dsts a g, T.get t = U.get t) : guardOk g' T = guardOk g' U := by
  cases g' with
  | none => rfl
  | some x =>
    obtain ⟨t, wn⟩ := x
    simp only [guardOk]
    rw [hn t (mem_guard h)]

theorem regionD_ok {call round : Call} (K : CtxOk C P) (hF : FOk F) (hc : CallOk C P F call) (hr : RoundOk C P F round) (hcs : CallStep call) (hrs : CallStep round) (hm : P.follows .mixedOrders = true) {ops : Array Oper} {Q : Exit → Act → World → Prop}
    {l : List AOper} (hl : cOpers C true ops.toList = some l) {T T' : Tmps} {s s' : St} (hrun : runOpsD call round l 0 [] T s = some (T', s')) {σ : Sig} {a : Act} {w : World} (G : GOk C σ) (ht : TRel σ T a.tmps) (h : HRel C σ s.get w)
    (hn : ∀ id, s.next ≤ id → id < s'.next → σ id = none) (hQ : ∀ a' w', Done C σ s w a T' s' a' w' → Q .normal a' w') {rid : Nat} : (Code.region rid ops true).wpIn F n P Q a w := by
  refine wpIn_region_any hm ?_
  obtain ⟨rs, R⟩ := regOk_of hl hrun hcs hrs
  have hsz : ops.toList.length = ops.size := by simp
  have main : ∀ (fuel : Nat) (listed : Array Bool) (σ1 : Sig) (a1 : Act) (w1 : World), listed.size = ops.size → listed.toList.count false = fuel → Closed (befores ops.toList []).reverse (fun j => listed.getD j false) →
      Inv C ops.toList l rs T s s' σ w.drew a (fun j => listed.getD j false) σ1 w1 a1 → wpAnyIn F n P .any ops Q fuel listed a1 w1 := by
    intro fuel
    have close : ∀ (listed : Array Bool) (σ1 : Sig) (a1 : Act) (w1 : World), listed.size = ops.size → Inv C ops.toList l rs T s s' σ w.drew a (fun j => listed.getD j false) σ1 w1 a1 → Region.ready .any ops listed = [] → Q .normal a1 w1 := by
      intro listed σ1 a1 w1 hls I hre
      have all : ∀ j, j < ops.toList.length → listed.getD j false = true := by
        intro j
        induction j using Nat.strongRecOn with
        | ind j ih =>
          intro hj
          cases hx : listed.getD j false with
          | true => rfl
          | false =>
            exfalso
            have hj' : j < ops.size := by rw [← hsz]; exact hj
            have : j ∈ Region.ready .any ops listed := by
              rw [mem_ready]
              refine ⟨?_, ops[j], by simp [hj'], fun e he hb => ?_⟩
              · rw [Array.getD_eq_getD_getElem?] at hx ⊢
                have : j < listed.size := by omega
                simpa [this] using hx
              · have := backward_at R.back (j := j) (o := ops[j]) (by simp [hj']) e he hb
                exact ih e.on (by omega) (by omega)
            rw [hre] at this; cases this
      obtain ⟨σ', p1, p2, p3⟩ := I.final R all
      exact hQ a1 w1 ⟨σ', p1.drew, p2, p3⟩
    induction fuel with
    | zero =>
      intro listed σ1 a1 w1 hls hcount hcl I
      have hre : Region.ready .any ops listed = [] := by
        cases hx : Region.ready .any ops listed with
        | nil => rfl
        | cons i r =>
          exfalso
          have hi : i ∈ Region.ready .any ops listed := by rw [hx]; exact List.mem_cons_self
          obtain ⟨h1, o, ho, _⟩ := mem_ready.1 hi
          have hlt : i < ops.size := (Array.getElem?_eq_some_iff.1 ho).1
          rw [List.count_eq_zero] at hcount
          have : i < listed.size := by omega
          have hfa : listed[i] = false := by
            rw [Array.getD_eq_getD_getElem?] at h1
            simpa [this] using h1
          exact hcount (hfa ▸ Array.getElem_mem_toList this)
      exact ⟨hre, close listed σ1 a1 w1 hls I hre⟩
    | succ fuel ih =>
      intro listed σ1 a1 w1 hls hcount hcl I
      refine ⟨close listed σ1 a1 w1 hls I, fun i hi => ?_⟩
      obtain ⟨h1, o, ho, hed⟩ := mem_ready.1 hi
      have hlt : i < ops.size := (Array.getElem?_eq_some_iff.1 ho).1
      have hlt' : i < ops.toList.length := by rw [hsz]; exact hlt
      have hlt2 : i < listed.size := by omega
      have hfa : listed[i] = false := by
        rw [Array.getD_eq_getD_getElem?] at h1
        simpa [hlt2] using h1
      have hS : (fun j => listed.getD j false) i = false := by
        show listed.getD i false = false
        rw [Array.getD_eq_getD_getElem?]
        simp [hlt2, hfa]
      have hS' : (fun j => (listed.setIfInBounds i true).getD j false) = upd (fun j => listed.getD j false) i := by
        funext j
        show (listed.setIfInBounds i true).getD j false = (listed.getD j false || Nat.beq j i)
        rw [beq_iff, Array.getD_eq_getD_getElem?, Array.getD_eq_getD_getElem?, Array.getElem?_setIfInBounds]
        by_cases e : i = j
        · subst e; simp [hlt2]
        · have : ¬ j = i := fun h => e h.symm
          simp [e, this]
      have hcount' : (listed.setIfInBounds i true).toList.count false = fuel := by
        have : listed.toList[i]? = some false := by simp [hlt2, hfa]
        have := count_set this
        rw [hcount] at this
        simp only [Array.toList_setIfInBounds]
        omega
      have hoL : ops.toList[i]? = some o := by simpa using ho
      have hpre : ∀ j, Before (befores ops.toList []).reverse i j → (fun j => listed.getD j false) j = true := by
        intro j hb
        obtain ⟨e, he, hbi, hon, hj⟩ := before_edge R.back hoL hb
        have h2 := hed e he hbi
        rcases hj with rfl | hj
        · exact h2
        · exact hcl e.on h2 j hj
      have hcl' : Closed (befores ops.toList []).reverse (upd (fun j => listed.getD j false) i) := by
        intro k hk j hb
        rcases upd_iff.1 hk with h2 | h2
        · exact upd_of (hcl k h2 j hb)
        · subst h2; exact upd_of (hpre j hb)
      obtain ⟨o', r, g, b, a1', a2, a3, a4, a5, a6, a7, a8⟩ := R.at_ hlt'
      rw [hoL] at a1'; injection a1' with a1'; subst a1'
      have er : rs.getD i default = r := by rw [List.getD_eq_getElem?_getD, a2]; rfl
      have et : tt rs i = r.t := by unfold tt; rw [er]
      have hnm : ∀ t ∈ namesOf (ops.toList.map (·.dst)) (cOpB C o.op) o.guard, (Ts l rs T (fun j => listed.getD j false) ops.toList.length).get t = r.T.get t := fun t ht' => by
        rw [a6]; exact R.names_at hlt' hS hpre hcl hoL ht'
      have hgo := guard_ok (o := o) a3 I.tmps rfl
      rw [guardOk_congr a3 hnm] at hgo
      have hlh := R.lohi hlt' a2
      unfold wpOpIn
      simp only [ho]
      rw [hgo]
      rcases a8 with ⟨q1, q2, q3, q4, q5⟩ | ⟨q1, hd, s2, q2, q3, q4, q5, q6, q7, q8⟩
      · simp only at q1
        rw [q1]
        simp only [Bool.false_eq_true, if_false]
        refine ⟨fun f _ => hF.fn f, ?_⟩
        refine ih _ σ1 _ w1 (by simpa using hls) hcount' (by rw [hS']; exact hcl') ?_
        rw [hS']
        have hnone : ∀ id, St.get ⟨r.s.heap, r.s.next, r.s.next, [], (0, r.s.next) :: r.s.hid⟩ id = none := fun id => by
          cases hx : St.get ⟨r.s.heap, r.s.next, r.s.next, [], (0, r.s.next) :: r.s.hid⟩ id with
          | none => rfl
          | some x =>
            have := get_lt (s := ⟨r.s.heap, r.s.next, r.s.next, [], (0, r.s.next) :: r.s.hid⟩) (id := id) (by rw [hx]; simp)
            have h3 : hidden ((0, r.s.next) :: r.s.hid) id = true := hidden_iff.2 ⟨_, List.mem_cons_self, Nat.zero_le _, this.1⟩
            rw [this.2] at h3; cases h3
        refine I.step R hlt' hS hcl hpre hoL (sI := ⟨r.s.heap, r.s.next, r.s.next, [], (0, r.s.next) :: r.s.hid⟩) (s2 := ⟨r.s.heap, r.s.next, r.s.next, [], (0, r.s.next) :: r.s.hid⟩) hn ?_ rfl ?_ ?_ ?_ ?_ (.refl ⟨?_, ?_⟩) ?_
        · rw [et, q5]
        · rw [et, q5]
        · rw [et, q5]
        · intro id x hx; rw [hnone] at hx; cases hx
        · intro id hx
          unfold tchAt at hx
          rw [er, tch_iff, q5] at hx
          simp only at hx
          rcases hx with hx | hx
          · cases hx
          · omega
        · intro id x hx; rw [hnone] at hx; cases hx
        · intro x y p q hx; rw [hnone] at hx; exact absurd rfl hx
        · rw [er, q2]; exact VRel.undef _
      · simp only at q1 q2 q3 q4 q6 q7
        rw [q1]
        simp only [if_true]
        have hco : cOp C o.op = some (cOpB C o.op) := by
          unfold cOpB at q3 ⊢
          split
          · assumption
          · rename_i hnone
            rw [hnone] at q3
            simp [doOp, opA] at q3
        have hvis : ∀ id x, St.get ⟨r.s.heap, r.s.next, r.s.next, [], hd⟩ id = some x → Hs rs s' ops.toList.length (fun j => listed.getD j false) id = some x := fun id x hx =>
          R.vis hlt' hS hpre hcl hoL a4 a2 (by rw [q4]) q2 hx
        have hdo : doOp call round (cOpB C o.op) (Ts l rs T (fun j => listed.getD j false) ops.toList.length) ⟨r.s.heap, r.s.next, r.s.next, [], hd⟩ = some (r.v, s2) := by
          rw [doOp_congr (U := r.T) fun t ht' => hnm t (by unfold namesOf; exact List.mem_append_left _ ht')]
          exact q3
        have hsub : HRel C σ1 (St.get ⟨r.s.heap, r.s.next, r.s.next, [], hd⟩) w1 := I.rel.less (fun _ _ h => h) (fun id x hx => hvis id x hx) (fun _ _ _ _ => rfl)
        have hσ1 : ∀ id, r.s.next ≤ id → id < s2.next → σ1 id = none := fun id h2 h3 => by
          have m1 := (R.mono (i := i) (Nat.le_of_lt hlt')).2.2
          have m2 := R.next_mono (i := i + 1) (j := ops.toList.length) (by omega) (Nat.le_refl _)
          rw [R.sAtEnd, q8] at m2
          simp only at m2
          rw [← a7] at m1
          cases hx : σ1 id with
          | none => rfl
          | some p =>
            exfalso
            obtain ⟨j, hj, hSj, h4, h5⟩ := I.new id p hx (hn id (by omega) (by omega))
            have hrj : rs[j]? = some (rs.getD j default) := by
              have : j < rs.length := by rw [R.rlen]; exact hj
              rw [List.getD_eq_getElem?_getD]; simp [this]
            have hij : j ≠ i := fun e => by subst e; exact absurd (hS.symm.trans hSj) (by simp)
            have hlo : r.t.lo = r.s.next := by rw [q4]
            have hhi : r.t.hi = s2.next := by rw [q4]
            rcases Nat.lt_or_gt_of_ne hij with e | e
            · have := R.hilo e hlt' a2 hrj
              unfold tt at h5; omega
            · have := R.hilo e hj hrj a2
              unfold tt at h4; omega
        have hcm := doOp_ok (k := n - 1) (s := ⟨r.s.heap, r.s.next, r.s.next, [], hd⟩) K hc hr (Nat.le_refl _) (G.mono I.sub) I.tmps hsub o hco hσ1 hdo
        refine ⟨fun f _ => hF.fn f, ?_⟩
        rw [semAt_ok hco]
        refine comes_upon hF hcm ?_
        rintro c w2 ⟨σ2, p1, p2⟩
        refine ih _ σ2 _ w2 (by simpa using hls) hcount' (by rw [hS']; exact hcl') ?_
        rw [hS']
        exact I.step R hlt' hS hcl hpre hoL hn (by rw [et, q4]) rfl (by rw [et, q4]) (by rw [et, q4]) hvis (fun id hx => R.seen hlt' hoL a2 q2 q3 q4 q8 hx) p1 (by rw [er]; exact p2)
  have hrep : (fun j => (Array.replicate ops.size false).getD j false) = fun _ => false := by
    funext j
    rw [Array.getD_eq_getD_getElem?]
    by_cases hj : j < ops.size <;> simp [hj]
  refine main _ _ σ a w.drew (by simp) (by simp) ?_ ?_
  · rw [hrep]; intro i hi; cases hi
  · rw [hrep]; exact Inv.init R h.drew ht

end Go.Qa
end
