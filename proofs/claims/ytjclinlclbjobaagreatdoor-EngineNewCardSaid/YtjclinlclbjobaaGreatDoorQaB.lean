/- Steps on the way to the card of EngineNew: the abstract operations answer as the model's do. -/
import Derived.Test.YtjclinlclbjobaaGreatDoorQaA
import Derived.Laws.StructEq
import Derived.Laws.Append
import Derived.Laws.BytesString
import Derived.Lib.UnsafeStr
set_option linter.all false
set_option linter.unusedVariables false
set_option linter.unusedSimpArgs false
set_option linter.unnecessarySimpa false

/- '==' here and there. -/
section
namespace Go.Qa
variable {P : Program} {C : Ctx} {σ : Sig} {w : World} {s : St}

theorem part_ok (K : CtxOk C P) {t : Nat} {sz : Option Nat} (ha : C.I.agg t = some sz) {c : List AV} {cs : Array Value} (hc : VRels σ c cs.toList) {off : Nat} {v : AV} (h : part? sz c off = some v) :
    ∃ x, (∀ w, (part t cs off).run P w = .ok x w) ∧ VRel σ v x := by
  cases sz with
  | none =>
    simp only [part?, lget_eq] at h
    obtain ⟨x, hx, hr⟩ := hc.get h
    refine ⟨x, fun w => ?_, hr⟩
    obtain ⟨h1, _⟩ := K.run_agg ha w
    have hx' : cs[off]? = some x := by simpa using hx
    simp [part, h1, hx']
  | some n =>
    simp only [part?] at h
    split at h
    · rename_i r hr
      injection h with h; subst h
      obtain ⟨e1, e2, e3⟩ := slice_some hr
      refine ⟨.agg (cs.extract off (off + n)), fun w => ?_, .agg _ _ ?_⟩
      · obtain ⟨h1, h2⟩ := K.run_agg ha w
        simp [part, h1, h2 n rfl]
      · rw [e1, Array.toList_extract]
        have : (cs.toList.extract off (off + n)) = (cs.toList.drop off).take n := by
          rw [List.extract_eq_take_drop]
          congr 1; omega
        rw [this]
        exact VRels.take n (VRels.drop off hc)
    · cases h

theorem clean_some {id : Nat} (h : clean s id = true) : ∃ c el, s.get id = some (.cells c el false) := by
  unfold clean at h
  split at h
  · rename_i c el hg; exact ⟨c, el, hg⟩
  · cases h
/-- a clean block: no byte of it is a string's -/
theorem clean_free (h : HRel C σ s.get w) {id : Nat} (hc : clean s id = true) {p : Place} (hp : σ id = some p) :
    s.get id ≠ none ∧ ∃ cc el fr, w.heap[p.block]? = some (.cells cc el fr) ∧ ∀ i, ¬ (fr.1 ≤ i ∧ i < fr.2) := by
  obtain ⟨c, el, hg⟩ := clean_some hc
  obtain ⟨q, hq, cc, fr, a, _, _, _, _, f, _⟩ := h.obj id _ hg
  rw [hp] at hq; injection hq with hq; subst hq
  exact ⟨by rw [hg]; simp, cc, el, fr, a, f rfl⟩
theorem frozen_free {b : Nat} {cc : Array Value} {el : Nat} {fr : Nat × Nat} (h : w.heap[b]? = some (.cells cc el fr)) (hf : ∀ i, ¬ (fr.1 ≤ i ∧ i < fr.2)) (k : Nat) (sp : Option Nat) : w.frozen? ⟨b, k, sp⟩ = false := by
  obtain ⟨lo, hi⟩ := fr
  have := hf k
  simp only at this
  simp only [World.frozen?, h]
  by_cases h1 : lo ≤ k <;> by_cases h2 : k < hi <;> simp [h1, h2]
  exact this ⟨h1, h2⟩
theorem shape_cells {b : Nat} {cc : Array Value} {el : Nat} {fr : Nat × Nat} (h : w.heap[b]? = some (.cells cc el fr)) : w.shape? b = some (el, cc.size) := by
  simp [World.shape?, h]
theorem run_sameAddr_ne {b b' k k' : Nat} {cc cc' : Array Value} {el el' : Nat} {fr fr' : Nat × Nat} (hne : b ≠ b') (h : w.heap[b]? = some (.cells cc el fr)) (hf : ∀ i, ¬ (fr.1 ≤ i ∧ i < fr.2))
    (h' : w.heap[b']? = some (.cells cc' el' fr')) (hf' : ∀ i, ¬ (fr'.1 ≤ i ∧ i < fr'.2)) : (sameAddr ⟨b, k, none⟩ ⟨b', k', none⟩).run P w = .ok false w := by
  have hb : (b == b') = false := by simp [hne]
  simp [sameAddr, hb, frozen_free h hf, frozen_free h' hf', noView, viewAt, shape_cells h, shape_cells h', mayBeOne, stringish]

section inversions
variable {g : Nat} {x y : AV} {r : Bool}
theorem eqA_bool (h : eqA s (g + 1) .bool x y = some r) : ∃ a b, x = .bool a ∧ y = .bool b ∧ r = boolEq a b := by
  cases x <;> first | (simp [eqA] at h; done) | skip
  cases y <;> first | (simp [eqA] at h; done) | skip
  simp [eqA] at h; exact ⟨_, _, rfl, rfl, h.symm⟩
theorem eqA_int (h : eqA s (g + 1) .int x y = some r) : ∃ k a b, x = .int k a ∧ y = .int k b ∧ r = intEq a b := by
  cases x <;> first | (simp [eqA] at h; done) | skip
  cases y <;> first | (simp [eqA] at h; done) | skip
  rename_i k a k' b
  simp only [eqA] at h
  split at h
  · rename_i hk; injection h with h; have := kindEq_eq hk; subst this; exact ⟨_, _, _, rfl, rfl, h.symm⟩
  · cases h
theorem eqA_str (h : eqA s (g + 1) .str x y = some r) : ∃ a b, x = .str a ∧ y = .str b ∧ r = strEq a b := by
  cases x <;> first | (simp [eqA] at h; done) | skip
  cases y <;> first | (simp [eqA] at h; done) | skip
  simp [eqA] at h; exact ⟨_, _, rfl, rfl, h.symm⟩
theorem eqA_ptr (h : eqA s (g + 1) .ptr x y = some r) : (x = .nilptr ∧ y = .nilptr ∧ r = true) ∨ (x = .nilptr ∧ (∃ j p, y = .ptr j p) ∧ r = false) ∨ ((∃ i o, x = .ptr i o) ∧ y = .nilptr ∧ r = false) ∨
    ∃ i o j p, x = .ptr i o ∧ y = .ptr j p ∧ ((i = j ∧ r = decide (o = p)) ∨ (i ≠ j ∧ clean s i = true ∧ clean s j = true ∧ r = false)) := by
  cases x <;> first | (simp [eqA] at h; done) | skip
  · cases y <;> first | (simp [eqA] at h; done) | skip
    · simp [eqA] at h; exact .inl ⟨rfl, rfl, h⟩
    · simp [eqA] at h; exact .inr (.inl ⟨rfl, ⟨_, _, rfl⟩, h⟩)
  · cases y <;> first | (simp [eqA] at h; done) | skip
    · simp [eqA] at h; exact .inr (.inr (.inl ⟨⟨_, _, rfl⟩, rfl, h⟩))
    · rename_i i o j p
      refine .inr (.inr (.inr ⟨i, o, j, p, rfl, rfl, ?_⟩))
      simp only [eqA, beq_iff] at h
      split at h
      · rename_i hb; injection h with h; exact .inl ⟨of_decide_eq_true hb, h.symm⟩
      · rename_i hb
        split at h
        · rename_i h1 h2; injection h with h; exact .inr ⟨of_decide_eq_false hb, h1, h2, h.symm⟩
        · cases h
theorem eqA_sl (h : eqA s (g + 1) .sl x y = some r) : (x = .nilsl ∧ y = .nilsl ∧ r = true) ∨ (x = .nilsl ∧ ((∃ i o n c, y = .sl i o n c) ∨ ∃ i o n c, y = .slo i o n c) ∧ r = false) ∨
    (((∃ i o n c, x = .sl i o n c) ∨ ∃ i o n c, x = .slo i o n c) ∧ y = .nilsl ∧ r = false) := by
  cases x <;> first | (simp [eqA] at h; done) | skip
  · cases y <;> first | (simp [eqA] at h; done) | skip
    · simp [eqA] at h; exact .inl ⟨rfl, rfl, h⟩
    · simp [eqA] at h; exact .inr (.inl ⟨rfl, .inl ⟨_, _, _, _, rfl⟩, h⟩)
    · simp [eqA] at h; exact .inr (.inl ⟨rfl, .inr ⟨_, _, _, _, rfl⟩, h⟩)
  · cases y <;> first | (simp [eqA] at h; done) | skip
    simp [eqA] at h; exact .inr (.inr ⟨.inl ⟨_, _, _, _, rfl⟩, rfl, h⟩)
  · cases y <;> first | (simp [eqA] at h; done) | skip
    simp [eqA] at h; exact .inr (.inr ⟨.inr ⟨_, _, _, _, rfl⟩, rfl, h⟩)
theorem eqA_map (h : eqA s (g + 1) .map x y = some r) : (x = .nilmap ∧ y = .nilmap ∧ r = true) ∨ (x = .nilmap ∧ (∃ i, y = .map i) ∧ r = false) ∨ ((∃ i, x = .map i) ∧ y = .nilmap ∧ r = false) := by
  cases x <;> first | (simp [eqA] at h; done) | skip
  · cases y <;> first | (simp [eqA] at h; done) | skip
    · simp [eqA] at h; exact .inl ⟨rfl, rfl, h⟩
    · simp [eqA] at h; exact .inr (.inl ⟨rfl, ⟨_, rfl⟩, h⟩)
  · cases y <;> first | (simp [eqA] at h; done) | skip
    simp [eqA] at h; exact .inr (.inr ⟨⟨_, rfl⟩, rfl, h⟩)
theorem eqA_func (h : eqA s (g + 1) .func x y = some r) : (x = .nilfunc ∧ y = .nilfunc ∧ r = true) ∨ (x = .nilfunc ∧ (∃ f a b, y = .func f a b) ∧ r = false) ∨ ((∃ f a b, x = .func f a b) ∧ y = .nilfunc ∧ r = false) := by
  cases x <;> first | (simp [eqA] at h; done) | skip
  · cases y <;> first | (simp [eqA] at h; done) | skip
    simp [eqA] at h; exact .inr (.inr ⟨⟨_, _, _, rfl⟩, rfl, h⟩)
  · cases y <;> first | (simp [eqA] at h; done) | skip
    · simp [eqA] at h; exact .inr (.inl ⟨rfl, ⟨_, _, _, rfl⟩, h⟩)
    · simp [eqA] at h; exact .inl ⟨rfl, rfl, h⟩
theorem eqA_struct {fs : List (Nat × Option Nat × EqT)} (h : eqA s (g + 1) (.struct fs) x y = some r) : ∃ a b, x = .agg a ∧ y = .agg b ∧ eqFs (eqA s g) fs a b = some r := by
  cases x <;> first | (simp [eqA] at h; done) | skip
  cases y <;> first | (simp [eqA] at h; done) | skip
  exact ⟨_, _, rfl, rfl, h⟩
theorem eqA_array {n esz : Nat} {sz : Option Nat} {e : EqT} (h : eqA s (g + 1) (.array n esz sz e) x y = some r) : ∃ a b, x = .agg a ∧ y = .agg b ∧ eqArr (eqA s g e) sz esz a b 0 n = some r := by
  cases x <;> first | (simp [eqA] at h; done) | skip
  cases y <;> first | (simp [eqA] at h; done) | skip
  exact ⟨_, _, rfl, rfl, h⟩
end inversions

theorem boolEq_eq (a b : Bool) : boolEq a b = (a == b) := by cases a <;> cases b <;> rfl

/-- the loop over an array's elements -/
theorem run_eqLoop (K : CtxOk C P) {e esz : Nat} {sz : Option Nat} (ha : C.I.agg e = some sz) (q : AV → AV → Option Bool) (dep : Nat)
    (hq : ∀ (x y : AV) (b : Bool), q x y = some b → ∀ c d, VRel σ x c → VRel σ y d → (Op.equalIn dep e c d).run P w = .ok b w) {a b : List AV} {xs ys : Array Value} (hx : VRels σ a xs.toList) (hy : VRels σ b ys.toList) :
    ∀ (n i : Nat) (r : Bool), eqArr q sz esz a b (i * esz) n = some r →
      (forIn (m := Sem) (List.range' i n) ((none, ()) : Option Bool × Unit) (fun i _ => do
        let u ← part e xs (i * esz)
        let v ← part e ys (i * esz)
        let r ← Op.equalIn dep e u v
        if (!r) = true then pure (ForInStep.done (some false, ())) else pure (ForInStep.yield (none, ())))).run P w = .ok (if r then (none, ()) else (some false, ())) w := by
  intro n
  induction n with
  | zero => intro i r h; simp [eqArr] at h; subst h; simp
  | succ n ih =>
    intro i r h
    simp only [eqArr] at h
    split at h
    · rename_i x y hpx hpy
      obtain ⟨c, hc1, hc2⟩ := part_ok K ha hx hpx
      obtain ⟨d, hd1, hd2⟩ := part_ok K ha hy hpy
      rw [List.range'_succ, List.forIn_cons]
      split at h
      · rename_i hb
        have h1 := hq x y true hb c d hc2 hd2
        have e1 : (i + 1) * esz = i * esz + esz := Nat.succ_mul i esz
        have := ih (i + 1) r (by rw [e1]; exact h)
        simp only [Sem.run_bind, hc1, hd1, h1, Result.andThen_ok, Bool.not_true, Bool.false_eq_true, if_false, Sem.run_pure]
        exact this
      · rename_i hb
        injection h with h; subst h
        have h1 := hq x y false hb c d hc2 hd2
        simp only [Sem.run_bind, hc1, hd1, h1, Result.andThen_ok, Bool.not_false, if_true, Sem.run_pure]
        rfl
      · cases h
    · cases h

theorem forIn_range_eq {β : Type} (n : Nat) (b : β) (f : Nat → β → Sem (ForInStep β)) : forIn (m := Sem) [0:n] b f = forIn (m := Sem) (List.range' 0 n) b f := by
  rw [Std.Legacy.Range.forIn_eq_forIn_range']
  simp [Std.Legacy.Range.size]

set_option maxHeartbeats 1600000 in
theorem eqAB_ok (K : CtxOk C P) (h : HRel C σ s.get w) : ∀ f : Nat,
    (∀ (t : Nat) (q : EqT), cEq C.I C.stood f t = some q → ∀ (g : Nat) (x y : AV) (b : Bool), eqA s g q x y = some b → ∀ (c d : Value), VRel σ x c → VRel σ y d →
      ∀ dep, f ≤ dep → (Op.equalIn dep t c d).run P w = .ok b w) ∧
    (∀ (fs : List Field) (l : List (Nat × Option Nat × EqT)), cEqFs C.I C.stood f fs = some l → ∀ (g : Nat) (a b : List AV) (r : Bool), eqFs (eqA s g) l a b = some r → ∀ (xs ys : Array Value), VRels σ a xs.toList → VRels σ b ys.toList →
      ∀ dep, f ≤ dep → (Op.eqFields dep xs ys fs).run P w = .ok r w) := by
  intro f
  induction f with
  | zero => exact ⟨fun t q hq => by simp [cEq] at hq, fun fs l hl => by simp [cEqFs] at hl⟩
  | succ f ih =>
    obtain ⟨ihA, ihB⟩ := ih
    constructor
    · intro t q hq g x y b hb c d hc hd dep hdep
      obtain ⟨dep, rfl⟩ : ∃ m, dep = m + 1 := ⟨dep - 1, by omega⟩
      cases g with
      | zero => simp [eqA] at hb
      | succ g =>
      simp only [cEq] at hq
      split at hq
      · rename_i hu
        injection hq with hq; subst hq
        obtain ⟨a, b', rfl, rfl, rfl⟩ := eqA_bool hb
        cases hc; cases hd
        rw [run_equalIn_bool' _ _ _ _ _ (K.under hu), boolEq_eq]
      · rename_i k hu
        injection hq with hq; subst hq
        obtain ⟨k', a, b', rfl, rfl, rfl⟩ := eqA_int hb
        cases hc; cases hd
        rw [run_equalIn_int _ _ _ _ _ _ _ (K.under hu), intEq_eq]
      · rename_i hu
        injection hq with hq; subst hq
        obtain ⟨a, b', rfl, rfl, rfl⟩ := eqA_str hb
        obtain ⟨p, rfl, hp⟩ := hc.str_inv
        obtain ⟨p', rfl, hp'⟩ := hd.str_inv
        rw [run_equalIn_string _ _ _ _ _ (K.under hu), ← hp, ← hp', strEq_eq, ByteArray.toList_eq, ByteArray.toList_eq]
      · rename_i e hu
        split at hq
        · rename_i n hn
          injection hq with hq; subst hq
          have hu := K.run_under hu w
          rcases eqA_ptr hb with ⟨rfl, rfl, rfl⟩ | ⟨rfl, ⟨j, p, rfl⟩, rfl⟩ | ⟨⟨i, o, rfl⟩, rfl, rfl⟩ | ⟨i, o, j, p, rfl, rfl, hh⟩
          · cases hc; cases hd; simp [Op.equalIn, hu]
          · cases hc; cases hd; simp [Op.equalIn, hu]
          · cases hc; cases hd; simp [Op.equalIn, hu]
          · cases hc with
            | ptr _ _ pi hpi => cases hd with
              | ptr _ _ pj hpj =>
                have hsz := K.run_size hn w
                rcases hh with ⟨rfl, rfl⟩ | ⟨hne, ci, cj, rfl⟩
                · rw [hpi] at hpj; injection hpj with hpj; subst hpj
                  have e : (({ block := pi.block, off := pi.base + o } : Addr) == { block := pi.block, off := pi.base + p }) = decide (o = p) := by
                    rw [Bool.eq_iff_iff]; simp
                  simp [Op.equalIn, hu, hsz, sameAddr, e]
                · obtain ⟨gi, cc, el, fr, wi, fi⟩ := clean_free h ci hpi
                  obtain ⟨gj, cc', el', fr', wj, fj⟩ := clean_free h cj hpj
                  have := run_sameAddr_ne (P := P) (k := pi.base + o) (k' := pj.base + p) (h.apart i j pi pj gi gj hne hpi hpj) wi fi wj fj
                  simp [Op.equalIn, hu, hsz, this]
        · cases hq
      · rename_i e hu
        injection hq with hq; subst hq
        have hu := K.run_under hu w
        rcases eqA_sl hb with ⟨rfl, rfl, rfl⟩ | ⟨rfl, ⟨i, o, n, c', rfl⟩ | ⟨i, o, n, c', rfl⟩, rfl⟩ | ⟨⟨i, o, n, c', rfl⟩ | ⟨i, o, n, c', rfl⟩, rfl, rfl⟩ <;> cases hc <;> cases hd <;> simp [Op.equalIn, hu]
      · rename_i k e hu
        injection hq with hq; subst hq
        have hu := K.run_under hu w
        rcases eqA_map hb with ⟨rfl, rfl, rfl⟩ | ⟨rfl, ⟨i, rfl⟩, rfl⟩ | ⟨⟨i, rfl⟩, rfl, rfl⟩ <;> cases hc <;> cases hd <;> simp [Op.equalIn, hu]
      · rename_i k e v hu
        injection hq with hq; subst hq
        have hu := K.run_under hu w
        rcases eqA_func hb with ⟨rfl, rfl, rfl⟩ | ⟨rfl, ⟨i, a, b, rfl⟩, rfl⟩ | ⟨⟨i, a, b, rfl⟩, rfl, rfl⟩ <;> cases hc <;> cases hd <;> simp [Op.equalIn, hu]
      · rename_i fs hu
        split at hq
        · cases hq
        · rename_i hst
          split at hq
          · rename_i l hl
            injection hq with hq; subst hq
            obtain ⟨a, b', rfl, rfl, hfs⟩ := eqA_struct hb
            cases hc with
            | agg _ xs hx => cases hd with
              | agg _ ys hy =>
                have hu' := K.under hu
                have e : P.fieldsOf t = ⟨fs⟩ := by simp [Program.fieldsOf, hu']
                rw [run_equalIn_struct w dep t xs ys (by rw [e]; exact hu') (K.stood t hst).1, e]
                exact ihB fs l hl g a b' b hfs xs ys hx hy dep (by omega)
          · cases hq
      · rename_i n e hu
        split at hq
        · rename_i sn sz q' hst hsn hag hq'
          injection hq with hq; subst hq
          obtain ⟨a, b', rfl, rfl, har⟩ := eqA_array hb
          cases hc with
          | agg _ xs hx => cases hd with
            | agg _ ys hy =>
              have hloop := run_eqLoop K (w := w) hag (eqA s g q') dep (fun x y b hb c d hc hd => ihA e q' hq' g x y b hb c d hc hd dep (by omega)) hx hy n 0 b (by simpa using har)
              simp only [Op.equalIn, Sem.run_bind, K.run_under hu, Result.andThen_ok, K.run_size hsn, forIn_range_eq]
              rw [hloop]
              cases b <;> simp
        · cases hq
      · cases hq
    · intro fs l hl g a b r hr xs ys hx hy dep hdep
      cases fs with
      | nil => simp [cEqFs] at hl; subst hl; simp [eqFs] at hr; subst hr; simp [Op.eqFields]
      | cons x fs =>
        simp only [cEqFs] at hl
        split at hl
        · rename_i sz q l' hnm hag hq hl'
          injection hl with hl; subst hl
          simp only [eqFs] at hr
          split at hr
          · rename_i u v hpu hpv
            obtain ⟨c, hc1, hc2⟩ := part_ok K hag hx hpu
            obtain ⟨d, hd1, hd2⟩ := part_ok K hag hy hpv
            have hname : x.name ≠ "_" := by intro e; rw [e] at hnm; simp at hnm
            split at hr
            · rename_i hb
              have h1 := ihA x.type q hq g u v true hb c d hc2 hd2 dep (by omega)
              have h2 := ihB fs l' hl' g a b r hr xs ys hx hy dep (by omega)
              simp [Op.eqFields, hname, hc1, hd1, h1, h2]
            · rename_i hb
              injection hr with hr; subst hr
              have h1 := ihA x.type q hq g u v false hb c d hc2 hd2 dep (by omega)
              simp [Op.eqFields, hname, hc1, hd1, h1]
            · cases hr
          · cases hr
        · cases hl

theorem eqA_ok (K : CtxOk C P) (h : HRel C σ s.get w) {t : Nat} {q : EqT} (hq : cEq C.I C.stood 40 t = some q) {x y : AV} {b : Bool} (hb : eqA s 12 q x y = some b) {c d : Value} (hc : VRel σ x c) (hd : VRel σ y d) :
    (Op.equal t c d).run P w = .ok b w :=
  (eqAB_ok K h 40).1 t q hq 12 x y b hb c d hc hd 10000 (by decide)

end Go.Qa
end

/- append, copy: slices that grow. -/
section
namespace Go.Qa
variable {P : Program} {C : Ctx} {σ : Sig} {w : World} {s : St}

theorem ofBytes_rel (σ : Sig) : ∀ (l : List UInt8), VRels σ (ofBytes (l.map (·.toNat))) (l.map fun b => Value.int .u8 (b.toNat : Int))
  | [] => .nil
  | b :: l => .cons _ _ _ _ (.int .u8 _) (ofBytes_rel σ l)

theorem slice_len0 {c r : List AV} {off n : Nat} (h : slice? c off n = some r) : n = 0 ∨ off + n ≤ c.length := by
  obtain ⟨h1, h2, _⟩ := slice_some h
  rw [h1] at h2
  simp only [List.length_take, List.length_drop] at h2
  omega

/-- the cells of a slice that lies in a block -/
theorem run_first_live {c : List AV} {el : Nat} {fz : Bool} {p : Place} {cc : Array Value} {fr : Nat × Nat} (L : Live C σ c el fz p w cc fr) {off n : Nat} {r : List AV} (h : slice? c off n = some r) (len cap esz k : Nat) (hk : k * esz = n) :
    ∃ arr : Array Value, (Builtin.firstCells esz k (.slice (some ⟨p.block, p.base + off, none⟩) len cap)).run P w = .ok arr w ∧ VRels σ r arr.toList := by
  have hl := L.len
  have hf := L.fits
  rcases slice_len0 h with h0 | hle
  · subst h0
    refine ⟨#[], ?_, ?_⟩
    · simp [Builtin.firstCells, hk]; rfl
    · obtain ⟨h1, _⟩ := slice_some h; rw [h1]; simp; exact .nil
  · refine ⟨((cc.toList.drop (p.base + off)).take n).toArray, ?_, ?_⟩
    · simp only [Builtin.firstCells, hk]
      exact run_loadCells_row L.at_ _ n (by omega)
    · obtain ⟨h1, _⟩ := slice_some h; rw [h1]; exact L.sub off n hle

theorem firstA_ok (h : HRel C σ s.get w) {esz n : Nat} {x : AV} {c : Value} (hc : VRel σ x c) {r : List AV} (hr : firstA s esz n x = some r) :
    ∃ arr : Array Value, (Builtin.firstCells esz n c).run P w = .ok arr w ∧ VRels σ r arr.toList := by
  cases hc <;> first | (simp [firstA] at hr; done) | skip
  · rename_i l b hb
    simp only [firstA, beq_iff, ble_iff, nlen_eq] at hr
    split at hr
    · rename_i h1 h2
      injection hr with hr
      refine ⟨_, by simp only [Builtin.firstCells]; rfl, ?_⟩
      rw [← hr, ntake_eq, ← hb, ← List.map_take]
      have e : ((b.extract 0 n).data.map fun b => Value.int .u8 (b.toNat : Int)).toList = (b.data.toList.take n).map fun b => Value.int .u8 (b.toNat : Int) := by
        rw [Array.toList_map]; congr 1
        have := ByteArray.data_extract (a := b) (b := 0) (e := n)
        rw [this]; simp
      rw [e]
      exact ofBytes_rel σ _
    · cases hr
  · cases n with
    | zero => simp [firstA] at hr; subst hr; exact ⟨#[], rfl, .nil⟩
    | succ n => simp [firstA] at hr
  · rename_i id off len cap p hp hlc
    simp only [firstA, ble_iff] at hr
    split at hr
    · split at hr
      · rename_i c' el fz hcs
        obtain ⟨q, cc, fr, hq, L⟩ := h.live hcs
        rw [hp] at hq; injection hq with hq; subst hq
        exact run_first_live L hr len cap esz n rfl
      · cases hr
    · cases hr
  · rename_i id off len e x cap p hp he hx hl ho hdv
    cases n with
    | zero => simp [firstA] at hr; subst hr; exact ⟨#[], by simp [Builtin.firstCells]; rfl, .nil⟩
    | succ n =>
      simp only [firstA, blt_iff] at hr
      split at hr
      · rename_i hlt
        have hlt := of_decide_eq_true hlt
        split at hr
        · rename_i c' el fz hcs
          obtain ⟨q, cc, fr, hq, L⟩ := h.live hcs
          rw [hp] at hq; injection hq with hq; subst hq
          rw [ho (by omega)]
          exact run_first_live L hr len cap esz (n + 1) rfl
        · cases hr
      · cases hr

theorem lenA_ok {x : AV} {c : Value} (hc : VRel σ x c) {n : Nat} (hn : lenA x = some n) : ∀ w, (Builtin.lenOf c).run P w = .ok n w := by
  intro w
  cases hc <;> first | (simp [lenA] at hn; done) | skip
  · rename_i l b hb; simp [lenA, nlen_eq] at hn; subst hn; simp [Builtin.lenOf, str_size hb]
  · simp [lenA] at hn; subst hn; rfl
  · simp [lenA] at hn; subst hn; rfl
  · simp [lenA] at hn; subst hn; rfl

theorem growBy_le (m : Nat) : ∀ (r c : Nat), c ≤ 2 * m + 768 → Builtin.growBy m r c ≤ 2 * m + 768
  | 0, c, h => h
  | r + 1, c, h => by
    unfold Builtin.growBy
    split
    · exact h
    · exact growBy_le m r _ (by omega)
theorem nextslicecap_le {need old : Nat} (h : old < need) : Builtin.nextslicecap need old ≤ 2 * need + 768 := by
  unfold Builtin.nextslicecap
  split
  · omega
  · split
    · omega
    · exact growBy_le _ _ _ (by omega)
theorem grownCap_ge (w : World) {need : Nat} (old : Nat) (e : TypeId) (h : need < 9223372036854775808) : need ≤ grownCap w need old e := by
  unfold grownCap Question.cut
  simp only
  omega

theorem grown_small (w : World) {need : Nat} (old : Nat) (e : TypeId) (h : need * 4096 ≤ 1099511627776) : need ≤ grownCap w need old e := grownCap_ge w old e (by omega)
theorem zeroCells_size (z : Array Value) (n : Nat) : (Builtin.zeroCells z n).size = n * z.size := by simp [Builtin.zeroCells]
theorem zeroCells_list (z : Array Value) (n : Nat) : (Builtin.zeroCells z n).toList = (List.replicate n z.toList).flatten := by
  unfold Builtin.zeroCells
  exact map_range_rep z n

theorem beq_false_ne {a b : Nat} (h : Nat.beq a b = false) : a ≠ b := by rw [beq_iff] at h; exact of_decide_eq_false h

theorem firstA_len {esz n : Nat} {x : AV} {r : List AV} (h : firstA s esz n x = some r) : r.length = n * esz := by
  cases x <;> first | (simp [firstA] at h; done) | skip
  · rename_i b
    simp only [firstA, beq_iff, ble_iff, nlen_eq] at h
    split at h
    · rename_i h1 h2
      have h1 := of_decide_eq_true h1
      have h2 := of_decide_eq_true h2
      injection h with h
      have : ∀ l : List Nat, (ofBytes l).length = l.length := fun l => by induction l with
        | nil => rfl
        | cons a l ih => simp [ofBytes, ih]
      rw [← h, this, ntake_eq, List.length_take, h1]; omega
    · cases h
  · cases n with
    | zero => simp [firstA] at h; subst h; simp
    | succ n => simp [firstA] at h
  · simp only [firstA] at h
    split at h
    · split at h
      · exact (slice_some h).2.1
      · cases h
    · cases h
  · cases n with
    | zero => simp [firstA] at h; subst h; simp
    | succ n =>
      simp only [firstA] at h
      split at h
      · split at h
        · exact (slice_some h).2.1
        · cases h
      · cases h

section runs
variable {t u e esz bt : Nat} {zv : Value} {d : Value} {n : Nat} {du : TypeDesc}
/-- append where there is room -/
theorem run_append_fits (K : CtxOk C P) (ht : C.I.under t = some (.slice e)) (hu : C.I.under u = some du) (hd : ∀ k, du ≠ .int k) (hs : C.I.size e = some esz) (hn : ∀ w, (Builtin.lenOf d).run P w = .ok n w)
    (ty : TypeId) (base : Option Addr) (sLen sCap : Nat) (hroom : sLen + n ≤ sCap) {arr : Array Value} (ha : (Builtin.firstCells esz n d).run P w = .ok arr w) :
    (Builtin.append_ #[t, u] ty #[.slice base sLen sCap, d]).run P w = match base with
      | none => .ok (.slice base (sLen + n) sCap) w
      | some a => ((storeCells (a.add (sLen * esz)) arr.toList).run P w).andThen fun _ w' => .ok (.slice base (sLen + n) sCap) w' := by
  have hdu : (match du with
    | .int _ => true
    | _ => false) = false := by cases du <;> first | rfl | exact absurd rfl (hd _)
  cases base with
  | none => simp [Builtin.append_, K.run_under ht, K.run_under hu, hdu, K.run_size hs, hn, hroom, ha]
  | some a => simp [Builtin.append_, K.run_under ht, K.run_under hu, hdu, K.run_size hs, hn, hroom, ha]

/-- append where there is none -/
theorem run_append_new (K : CtxOk C P) (ht : C.I.under t = some (.slice e)) (hu : C.I.under u = some du) (hd : ∀ k, du ≠ .int k) (hs : C.I.size e = some esz) (hb : C.I.bytes e = some bt) (hb0 : bt ≠ 0) (hb1 : bt ≤ 4096)
    (hz : ∀ w, (zeroValue e).run P w = .ok zv w) (hn : ∀ w, (Builtin.lenOf d).run P w = .ok n w)
    (ty : TypeId) (base : Option Addr) (sLen sCap : Nat) (hroom : sCap < sLen + n) (hsmall : (sLen + n) * 4096 ≤ 1099511627776) {old arr : Array Value}
    (ho : (Builtin.firstCells esz sLen (.slice base sLen sCap)).run P w.drew = .ok old w.drew) (ha : (Builtin.firstCells esz n d).run P w.drew = .ok arr w.drew) :
    (Builtin.append_ #[t, u] ty #[.slice base sLen sCap, d]).run P w =
      .ok (.slice (some ⟨w.heap.size, 0, none⟩) (sLen + n) (grownCap w (sLen + n) sCap e)) (w.drew.alloc (.cells (old ++ arr ++ Builtin.zeroCells zv.cells (grownCap w (sLen + n) sCap e - (sLen + n))) e)) := by
  have hdu : (match du with
    | .int _ => true
    | _ => false) = false := by cases du <;> first | rfl | exact absurd rfl (hd _)
  have h1 : ¬ (sLen + n ≤ sCap) := by omega
  obtain ⟨i, hi, hib⟩ := Ti.bytes_info hb
  have hti := fun w => K.run_info hi w
  have h2 : ¬ ((IntKind.i64.max < (sLen : Int) + (n : Int)) ∧ (false = true ∨ bt = 0)) := by
    rintro ⟨_, hh | hh⟩
    · cases hh
    · exact hb0 hh
  have hcap := nextslicecap_le hroom
  have h3 : ¬ (2 ^ 48 < Builtin.nextslicecap (sLen + n) sCap * bt) := by
    have : Builtin.nextslicecap (sLen + n) sCap * bt ≤ (2 * (sLen + n) + 768) * 4096 := Nat.mul_le_mul hcap hb1
    omega
  have h3' : ¬ (281474976710656 < Builtin.nextslicecap (sLen + n) sCap * bt) := by simpa using h3
  simp [Builtin.append_, K.run_under ht, K.run_under hu, hdu, K.run_size hs, hn, h1, hti, hib, hb0, h3', Question.forced, ho, ha, hz, newRow, grownCap]

/-- what is made anew -/
theorem post_grown {zv : Value} {e esz need : Nat} (h : HRel C σ s.get w) (hn : σ s.next = none) {c : List AV} {arr : Array Value} (hc : VRels σ c arr.toList) (hl : c.length = need * esz) (hz : zv.cells.size = esz) (he : esz ≠ 0) (fz : Bool) (cap : Nat) (hcap : need ≤ cap) :
    Post C σ s w (σ.ins s.next ⟨w.heap.size, 0, cap * esz⟩) (s.new (.cells c e fz)) (w.drew.alloc (.cells (arr ++ Builtin.zeroCells zv.cells (cap - need)) e)) ∧
    VRel (σ.ins s.next ⟨w.heap.size, 0, cap * esz⟩) (.slo s.next 0 need esz) (.slice (some ⟨w.heap.size, 0, none⟩) need cap) := by
  have hal : arr.size = need * esz := by have := hc.length; simp at this; omega
  have hsz : (arr ++ Builtin.zeroCells zv.cells (cap - need)).size = cap * esz := by
    rw [Array.size_append, zeroCells_size, hz, hal, ← Nat.add_mul]
    congr 1; omega
  constructor
  · refine (post_new (w := w.drew) h.drew hn _ _ 0 (cap * esz) ?_).drew
    refine ⟨_, (0, 0), rfl, by simp only; omega, by rw [hl]; exact Nat.mul_le_mul_right _ hcap, ?_, .inl rfl, fun _ i => by simp, fun n _ => Nat.dvd_zero n⟩
    have : ((arr ++ Builtin.zeroCells zv.cells (cap - need)).toList.drop 0).take c.length = arr.toList := by
      rw [List.drop_zero, Array.toList_append, List.take_append_of_le_length (by simp; omega), List.take_of_length_le (by simp; omega)]
    rw [this]
    exact hc.mono (Sig.ins_sub _ hn)
  · have := VRel.slo (σ := σ.ins s.next ⟨w.heap.size, 0, cap * esz⟩) s.next 0 need esz 0 cap _ (Sig.ins_self _ _ _) (by omega) (by simp only; omega) hcap (fun _ => rfl) (Nat.dvd_zero _)
    simpa using this

theorem appendNew_inj {elem esz need : Nat} {c : List AV} {fz : Bool} {v : AV} {s s' : St} (h : appendNew s elem esz c need fz = some (v, s')) : v = .slo s.next 0 need esz ∧ s' = s.new (.cells c elem fz) ∧ need * 4096 ≤ 1099511627776 := by
  unfold appendNew at h
  split at h
  · rename_i h1 h2
    injection h with h; injection h with h3 h4
    rw [ble_iff] at h1
    exact ⟨h3.symm, h4.symm, of_decide_eq_true h1⟩
  · cases h

end runs

end Go.Qa
end

/- append, whole. -/
section
namespace Go.Qa
variable {P : Program} {C : Ctx} {σ : Sig} {w : World} {s : St}

section
variable {t u e esz bt : Nat} {z : AV} {zv : Value} {d : Value} {n : Nat} {du : TypeDesc}
set_option maxHeartbeats 800000 in
theorem appendA_gen (K : CtxOk C P) (h : HRel C σ s.get w) (hs : C.I.size e = some esz)
    {z : AV} {zv : Value} (hzv : cV zv = some z) (hzl : z.cells.length = esz) {run : Value → Result Value} {x v : AV} {c : Value} (hx : VRel σ x c) {new : List AV} {arr arr' : Array Value} (ha2 : VRels σ new arr.toList) (hd2 : VRels σ new arr'.toList)
    (hnl : new.length = n * esz)
    (Hf : bt ≤ 4096 → ∀ base (sLen sCap : Nat), sLen + n ≤ sCap → run (.slice base sLen sCap) = match base with
      | none => .ok (.slice base (sLen + n) sCap) w
      | some a => ((storeCells (a.add (sLen * esz)) arr.toList).run P w).andThen fun _ w' => .ok (.slice base (sLen + n) sCap) w')
    (Hn : bt ≤ 4096 → bt ≠ 0 → ∀ base (sLen sCap : Nat), sCap < sLen + n → (sLen + n) * 4096 ≤ 1099511627776 → ∀ old : Array Value, (Builtin.firstCells esz sLen (.slice base sLen sCap)).run P w.drew = .ok old w.drew →
      run (.slice base sLen sCap) = .ok (.slice (some ⟨w.heap.size, 0, none⟩) (sLen + n) (grownCap w (sLen + n) sCap e)) (w.drew.alloc (.cells (old ++ arr' ++ Builtin.zeroCells zv.cells (grownCap w (sLen + n) sCap e - (sLen + n))) e)))
    {s' : St} (ho : appendA s e esz bt x new n = some (v, s')) (hn : ∀ id, s.next ≤ id → id < s'.next → σ id = none) :
    ∃ σ' w' r, Post C σ s w σ' s' w' ∧ VRel σ' v r ∧ run c = .ok r w' := by
  have hzs : zv.cells.size = esz := by have := (cV_rel σ zv z hzv).cells.length; simp at this; omega
  unfold appendA at ho
  split at ho
  · -- nothing is appended
    rename_i hbt0 _ _
    rw [ble_iff] at hbt0
    have hbt0 := of_decide_eq_true hbt0
    have harr : arr.toList = [] := by
      have := ha2.length
      rw [hnl] at this
      simp at this
      cases hh : arr.toList with
      | nil => rfl
      | cons a l => simp [← Array.length_toList, hh] at this
    split at ho <;> first | (cases ho; done) | skip
    · injection ho with ho; injection ho with h1 h2; subst h1; subst h2
      cases hx
      refine ⟨σ, w, _, .refl h, .nilsl, ?_⟩
      rw [Hf hbt0 none 0 0 (by omega)]
    · injection ho with ho; injection ho with h1 h2; subst h1; subst h2
      cases hx with
      | sl _ _ _ _ p hp hlc =>
        refine ⟨σ, w, _, .refl h, .sl _ _ _ _ p hp hlc, ?_⟩
        rw [Hf hbt0 _ _ _ (by omega), harr]
        simp [storeCells]
    · injection ho with ho; injection ho with h1 h2; subst h1; subst h2
      cases hx with
      | slo _ _ _ _ xo cap p hp he hxo hlc ho' hdv =>
        refine ⟨σ, w, _, .refl h, .slo _ _ _ _ xo cap p hp he hxo hlc ho' hdv, ?_⟩
        rw [Hf hbt0 _ _ cap (by omega), harr]
        simp [storeCells]
  · rename_i m hbt hes hb0
    rw [ble_iff] at hbt
    have hbt := of_decide_eq_true hbt
    have hes := beq_false_ne hes
    have hb0 := beq_false_ne hb0
    split at ho <;> first | (cases ho; done) | skip
    · -- nil
      obtain ⟨rfl, rfl, hsm⟩ := appendNew_inj ho
      cases hx
      have hn0 : σ s.next = none := hn _ (Nat.le_refl _) (Nat.lt_succ_self _)
      have hg := post_grown (zv := zv) (e := e) (need := m + 1) h hn0 hd2 hnl hzs hes false (grownCap w (m + 1) 0 e) (grown_small w 0 e hsm)
      refine ⟨_, _, _, hg.1, hg.2, ?_⟩
      have hre := Hn hbt hb0 none 0 0 (Nat.succ_pos _) (by rw [Nat.zero_add]; exact hsm) #[] rfl
      rw [Nat.zero_add] at hre
      rw [hre, Array.empty_append]
    · rename_i id off len cap
      split at ho
      · -- a known capacity, and room
        rename_i hfit
        rw [ble_iff] at hfit
        have hfit := of_decide_eq_true hfit
        split at ho
        · rename_i c' el fz hcs
          split at ho
          · rename_i c2 hov
            split at ho
            · rename_i hlc
              injection ho with ho; injection ho with h1 h2; subst h1; subst h2
              cases hx with
              | sl _ _ _ _ p hp hlc0 =>
                obtain ⟨q, cc, fr, hq, L⟩ := h.live hcs
                rw [hp] at hq; injection hq with hq; subst hq
                obtain ⟨cc', g1, g2⟩ := L.over (P := P) hov ha2
                have hg : s.get id ≠ none := by rw [St.cells_some hcs]; simp
                refine ⟨σ, World.row w p.block (.cells cc' el fr), _, ?_, .sl id off (len + m + 1) cap p hp hfit, ?_⟩
                · refine post_mod h hg hp rfl rfl rfl rfl (fun j hj => by rw [St.get_set hg, if_neg hj]) (fun b hb => row_get_other hb) (by simp [World.row]) rfl rfl rfl ?_
                  intro o hoo
                  rw [St.get_set hg, if_pos rfl] at hoo
                  injection hoo with hoo; subst hoo
                  exact g2.orel
                · rw [Hf hbt _ len cap (by omega)]
                  simp only [add_none, Nat.add_assoc]
                  rw [g1]
                  rfl
            · cases ho
          · cases ho
        · cases ho
      · -- a known capacity, and no room
        rename_i hfit
        rw [ble_iff] at hfit
        have hfit := of_decide_eq_false hfit
        split at ho
        · rename_i c0 hc0
          obtain ⟨rfl, rfl, hsm⟩ := appendNew_inj ho
          obtain ⟨old, ho1, ho2⟩ := firstA_ok (P := P) (w := w.drew) h.drew hx hc0
          have hl0 := firstA_len hc0
          have hn0 : σ s.next = none := hn _ (Nat.le_refl _) (Nat.lt_succ_self _)
          have hcat : VRels σ (c0 ++ new) (old ++ arr').toList := by rw [Array.toList_append]; exact ho2.append hd2
          have hcl : (c0 ++ new).length = (len + m + 1) * esz := by rw [List.length_append, hl0, hnl, ← Nat.add_mul]; rfl
          have hg := post_grown (zv := zv) (e := e) h hn0 hcat hcl hzs hes false (grownCap w (len + m + 1) cap e) (grown_small w cap e hsm)
          refine ⟨_, _, _, hg.1, hg.2, ?_⟩
          cases hx with
          | sl _ _ _ _ p hp hlc0 =>
            rw [Hn hbt hb0 _ len cap (by omega) (by omega) old ho1]
            rfl
        · cases ho
    · -- a capacity that isn't known
      rename_i id off len es
      split at ho
      · rename_i c' el fz hes2 hcs
        rw [beq_iff] at hes2
        have hes2 := of_decide_eq_true hes2
        subst hes2
        split at ho
        · rename_i c0 hel hc0 hone
          rw [beq_iff] at hel
          have hel := of_decide_eq_true hel
          subst hel
          obtain ⟨rfl, rfl, hsm⟩ := appendNew_inj ho
          have hn0 : σ s.next = none := hn _ (Nat.le_refl _) (Nat.lt_succ_self _)
          have hg : s.get id ≠ none := by rw [St.cells_some hcs]; simp
          cases hx with
          | slo _ _ _ _ xo cap p hp he hxo hlc ho' hdv =>
            obtain ⟨q, cc, fr, hq, L⟩ := h.live hcs
            rw [hp] at hq; injection hq with hq; subst hq
            have hl0 : c0.length = len * es := (slice_some hc0).2.1
            have hcl : (c0 ++ new).length = (len + m + 1) * es := by rw [List.length_append, hl0, hnl, ← Nat.add_mul]; rfl
            by_cases hfit : len + (m + 1) ≤ cap
            · -- in place
              have hfits := L.fits
              have hmul : (len + (m + 1)) * es ≤ cap * es := Nat.mul_le_mul_right _ hfit
              have hmul2 : (len + (m + 1)) * es = len * es + (m + 1) * es := Nat.add_mul _ _ _
              have hnl' : new.length = (m + 1) * es := hnl
              have hal : arr.toList.length = (m + 1) * es := by have := ha2.length; omega
              have hones : ∀ v ∈ arr.toList, oneC v = true := by
                intro v hv
                obtain ⟨i, hi⟩ := List.getElem?_of_mem hv
                have hi' : i < new.length := by rw [ha2.length]; exact (List.getElem?_eq_some_iff.1 hi).1
                obtain ⟨y1, hy1, hy2⟩ := ha2.get (i := i) (v := new[i]) (by simp [hi'])
                rw [hi] at hy1; injection hy1 with hy1; subst hy1
                exact one_oneCell hy2 ((allOne_iff _).1 hone _ (List.getElem_mem hi'))
              obtain ⟨cc', g1, g2⟩ := run_storeCells_row (P := P) (off := p.base + xo + len * es) arr.toList 0 cc w L.at_ hones (by omega) (fun k a b => L.free k (by omega) (by omega))
              have hsz : cc'.size = cc.size := by have := congrArg List.length g2; simp at this; simp at hal; omega
              refine ⟨σ.ins s.next ⟨p.block, p.base + xo, cap * es⟩, World.row w p.block (.cells cc' el fr), .slice (some ⟨p.block, p.base + xo, none⟩) (len + (m + 1)) cap, ?_, ?_, ?_⟩
              · refine post_move h hg hp hn0 _ rfl (fun b hb => row_get_other hb) (by simp [World.row]) rfl rfl rfl ?_
                refine ⟨cc', fr, row_get_same L.at_, by simp only; omega, by rw [hcl]; simp only; have : len + m + 1 = len + (m + 1) := rfl; rw [this]; exact hmul, ?_, by have := L.free0; simp only; omega, L.clean, fun n hn' => by rw [hs] at hn'; injection hn' with hn'; subst hn'; exact Nat.dvd_add (L.dvd _ hs) hdv⟩
                have hc0r : VRels σ c0 ((cc.toList.drop (p.base + xo)).take (len * es)) := by
                  rcases slice_len0 hc0 with h0 | hle
                  · rw [h0] at hl0 ⊢
                    cases c0 with
                    | nil => simp; exact .nil
                    | cons a l => simp at hl0
                  · by_cases hz0 : len = 0
                    · subst hz0
                      rw [Nat.zero_mul] at hl0 ⊢
                      cases c0 with
                      | nil => simp; exact .nil
                      | cons a l => simp at hl0
                    · rw [ho' (by omega)]
                      have := L.sub off (len * es) hle
                      rwa [← (slice_some hc0).1] at this
                have e1 : (cc'.toList.drop (p.base + xo)).take (c0 ++ new).length = (cc.toList.drop (p.base + xo)).take (len * es) ++ arr.toList := by
                  simp only [Nat.add_zero] at g2
                  rw [g2, hcl]
                  have hlt : (cc.toList.take (p.base + xo + len * es)).length = p.base + xo + len * es := by simp; omega
                  have e0 : (cc.toList.take (p.base + xo + len * es)).drop (p.base + xo) = (cc.toList.drop (p.base + xo)).take (len * es) := by rw [List.drop_take]; congr 1; omega
                  rw [List.append_assoc, List.drop_append, hlt, e0]
                  have e2 : p.base + xo - (p.base + xo + len * es) = 0 := by omega
                  have hA : ((cc.toList.drop (p.base + xo)).take (len * es)).length = len * es := by simp; omega
                  have e3 : (len + m + 1) * es = len * es + (m + 1) * es := by rw [show len + m + 1 = len + (m + 1) from rfl]; exact hmul2
                  rw [e2, List.drop_zero, List.take_append, hA, List.take_of_length_le (by omega), e3]
                  have e4 : len * es + (m + 1) * es - len * es = arr.toList.length := by omega
                  rw [e4, List.take_left]
                have hsub := Sig.ins_sub (σ := σ) (⟨p.block, p.base + xo, cap * es⟩ : Place) hn0
                have goal := (hc0r.append ha2).mono hsub
                rw [← e1] at goal
                exact goal
              · have := VRel.slo (σ := σ.ins s.next ⟨p.block, p.base + xo, cap * es⟩) s.next 0 (len + (m + 1)) es 0 cap _ (Sig.ins_self _ _ _) he (by simp only; omega) hfit (fun _ => rfl) (Nat.dvd_zero _)
                exact this
              · rw [Hf hbt _ len cap hfit]
                simp only [add_none]
                rw [g1]
                rfl
            · -- elsewhere
              have hold : ∃ old : Array Value, (Builtin.firstCells es len (.slice (some ⟨p.block, p.base + xo, none⟩) len cap)).run P w.drew = .ok old w.drew ∧ VRels σ c0 old.toList := by
                by_cases hz0 : len = 0
                · subst hz0
                  rw [Nat.zero_mul] at hl0
                  refine ⟨#[], by simp [Builtin.firstCells]; rfl, ?_⟩
                  cases c0 with
                  | nil => exact .nil
                  | cons a l => simp at hl0
                · have L' : Live C σ c' el fz p w.drew cc fr := ⟨L.at_, L.fits, L.len, L.rel, L.free0, L.clean, L.dvd⟩
                  rw [ho' (by omega)]
                  exact run_first_live L' hc0 len cap es len rfl
              obtain ⟨old, ho1, ho2⟩ := hold
              have hk := post_kill h hg
              have hcat : VRels σ (c0 ++ new) (old ++ arr').toList := by rw [Array.toList_append]; exact ho2.append hd2
              have hgr := post_grown (zv := zv) (e := el) (s := s.kill id) hk.rel hn0 hcat hcl hzs hes fz (grownCap w (len + m + 1) cap el) (grown_small w cap el hsm)
              refine ⟨_, _, _, hk.trans hgr.1 (fun id h1 h2 => hn id h1 h2), hgr.2, ?_⟩
              rw [Hn hbt hb0 _ len cap (by omega) (by omega) old ho1]
              rfl
        · cases ho
      · cases ho
  · cases ho

theorem appendA_ok (K : CtxOk C P) (h : HRel C σ s.get w) (ht : C.I.under t = some (.slice e)) (hu : C.I.under u = some du) (hd : ∀ k, du ≠ .int k) (hs : C.I.size e = some esz) (hb : C.I.bytes e = some bt)
    (hz : C.I.zero e = some z) (hzl : z.cells.length = esz) (ty : TypeId) {x y v : AV} {c : Value} (hx : VRel σ x c) (hy : VRel σ y d) (hlen : lenA y = some n) {new : List AV} (hfirst : firstA s esz n y = some new) {s' : St}
    (ho : appendA s e esz bt x new n = some (v, s')) (hn : ∀ id, s.next ≤ id → id < s'.next → σ id = none) :
    ∃ σ' w' r, Post C σ s w σ' s' w' ∧ VRel σ' v r ∧ (Builtin.append_ #[t, u] ty #[c, d]).run P w = .ok r w' := by
  have hln := lenA_ok (P := P) hy hlen
  have hnl := firstA_len hfirst
  obtain ⟨arr, ha1, ha2⟩ := firstA_ok (P := P) h hy hfirst
  obtain ⟨arr', hd1, hd2⟩ := firstA_ok (P := P) (w := w.drew) h.drew hy hfirst
  obtain ⟨zv, hzv, hzr⟩ := K.run_zero hz
  exact appendA_gen K h hs hzv hzl (run := fun c => (Builtin.append_ #[t, u] ty #[c, d]).run P w) hx ha2 hd2 hnl
    (fun _ base sLen sCap hroom => run_append_fits K ht hu hd hs hln ty base sLen sCap hroom ha1)
    (fun hbt hb0 base sLen sCap hroom hsm old ho1 => run_append_new K ht hu hd hs hb hb0 hbt hzr hln ty base sLen sCap hroom hsm ho1 hd1) ho hn

/-! ### zeros -/
theorem zc_nil {z : Array Value} {n : Nat} (h : n * z.size = 0) : Builtin.zeroCells z n = #[] := by
  apply Array.eq_empty_of_size_eq_zero
  rw [zeroCells_size, h]
theorem i64_small' {m : Nat} (h : m * 4096 ≤ 1099511627776) : IntKind.i64.wrap (m : Int) = m := by rw [IntKind.wrap_i64]; omega

theorem run_appendZ_fits (K : CtxOk C P) {ku kd : IntKind} (ht : C.I.under t = some (.slice e)) (hu : C.I.under u = some (.int ku)) (hs : C.I.size e = some esz) (hb : C.I.bytes e = some bt) (hbt : bt ≤ 4096) (hsm : n * 4096 ≤ 1099511627776)
    (hz : ∀ w, (zeroValue e).run P w = .ok zv w) (hzs : zv.cells.size = esz) (ty : TypeId) (base : Option Addr) (sLen sCap : Nat) (hroom : sLen + n ≤ sCap) :
    (Builtin.append_ #[t, u] ty #[.slice base sLen sCap, .int kd (n : Int)]).run P w = match base with
      | none => .ok (.slice base (sLen + n) sCap) w
      | some a => ((storeCells (a.add (sLen * esz)) (Builtin.zeroCells zv.cells n).toList).run P w).andThen fun _ w' => .ok (.slice base (sLen + n) sCap) w' := by
  obtain ⟨i, hi, hib⟩ := Ti.bytes_info hb
  have hti := fun w => K.run_info hi w
  have hw := i64_small' hsm
  have h1 : ¬ ((n : Int) < 0) := by omega
  have h2 : ¬ (281474976710656 < (n : Int) * (bt : Int)) := by
    have h3 : n * bt ≤ n * 4096 := Nat.mul_le_mul_left _ hbt
    have h4 : ((n * bt : Nat) : Int) ≤ 281474976710656 := by omega
    rw [Int.natCast_mul] at h4
    exact Int.not_lt.2 h4
  by_cases h0 : n * esz = 0
  · have hz0 : Builtin.zeroCells zv.cells n = #[] := zc_nil (by rw [hzs]; exact h0)
    cases base with
    | none => simp [Builtin.append_, K.run_under ht, K.run_under hu, K.run_size hs, asInt, asIntOf, hw, h1, hti, hib, h2, hroom, h0]
    | some a => simp [Builtin.append_, K.run_under ht, K.run_under hu, K.run_size hs, asInt, asIntOf, hw, h1, hti, hib, h2, hroom, h0, hz0]
  · cases base with
    | none => simp [Builtin.append_, K.run_under ht, K.run_under hu, K.run_size hs, asInt, asIntOf, hw, h1, hti, hib, h2, hroom, h0, hz]
    | some a => simp [Builtin.append_, K.run_under ht, K.run_under hu, K.run_size hs, asInt, asIntOf, hw, h1, hti, hib, h2, hroom, h0, hz]

theorem run_appendZ_new (K : CtxOk C P) {ku kd : IntKind} (ht : C.I.under t = some (.slice e)) (hu : C.I.under u = some (.int ku)) (hs : C.I.size e = some esz) (hb : C.I.bytes e = some bt) (hb0 : bt ≠ 0) (hb1 : bt ≤ 4096)
    (hz : ∀ w, (zeroValue e).run P w = .ok zv w) (hzs : zv.cells.size = esz) (ty : TypeId) (base : Option Addr) (sLen sCap : Nat) (hroom : sCap < sLen + n) (hsmall : (sLen + n) * 4096 ≤ 1099511627776) {old : Array Value}
    (ho : (Builtin.firstCells esz sLen (.slice base sLen sCap)).run P w.drew = .ok old w.drew) :
    (Builtin.append_ #[t, u] ty #[.slice base sLen sCap, .int kd (n : Int)]).run P w =
      .ok (.slice (some ⟨w.heap.size, 0, none⟩) (sLen + n) (grownCap w (sLen + n) sCap e)) (w.drew.alloc (.cells (old ++ Builtin.zeroCells zv.cells n ++ Builtin.zeroCells zv.cells (grownCap w (sLen + n) sCap e - (sLen + n))) e)) := by
  obtain ⟨i, hi, hib⟩ := Ti.bytes_info hb
  have hti := fun w => K.run_info hi w
  have hw := i64_small' (m := n) (Nat.le_trans (Nat.mul_le_mul_right _ (Nat.le_add_left _ _)) hsmall)
  have hn0 : ¬ ((n : Int) < 0) := by omega
  have h1 : ¬ (sLen + n ≤ sCap) := by omega
  have h2 : ¬ (281474976710656 < (n : Int) * (bt : Int)) := by
    have h3 : n * bt ≤ n * 4096 := Nat.mul_le_mul_left _ hb1
    have h4 : ((n * bt : Nat) : Int) ≤ 281474976710656 := by omega
    rw [Int.natCast_mul] at h4
    exact Int.not_lt.2 h4
  have hcap := nextslicecap_le hroom
  have h3' : ¬ (281474976710656 < Builtin.nextslicecap (sLen + n) sCap * bt) := by
    have : Builtin.nextslicecap (sLen + n) sCap * bt ≤ (2 * (sLen + n) + 768) * 4096 := Nat.mul_le_mul hcap hb1
    omega
  have h5 : ¬ ((9223372036854775807 : Int) < (sLen : Int) + (n : Int)) := by omega
  by_cases h0 : n * esz = 0
  · have hz0 : Builtin.zeroCells zv.cells n = #[] := zc_nil (by rw [hzs]; exact h0)
    simp [Builtin.append_, K.run_under ht, K.run_under hu, K.run_size hs, asInt, asIntOf, hw, hn0, h1, hti, hib, hb0, h2, h3', Question.forced, ho, hz, newRow, grownCap, h0, hz0, IntKind.max_i64, h5]
  · simp [Builtin.append_, K.run_under ht, K.run_under hu, K.run_size hs, asInt, asIntOf, hw, hn0, h1, hti, hib, hb0, h2, h3', Question.forced, ho, hz, newRow, grownCap, h0, IntKind.max_i64, h5]

theorem appendZ_ok (K : CtxOk C P) (h : HRel C σ s.get w) {ku kd : IntKind} (ht : C.I.under t = some (.slice e)) (hu : C.I.under u = some (.int ku)) (hs : C.I.size e = some esz) (hb : C.I.bytes e = some bt)
    (hz : C.I.zero e = some z) (hzl : z.cells.length = esz) (ty : TypeId) {x v : AV} {c : Value} (hx : VRel σ x c) (hsm : n * 4096 ≤ 1099511627776) {s' : St}
    (ho : appendA s e esz bt x (rep n z.cells) n = some (v, s')) (hn : ∀ id, s.next ≤ id → id < s'.next → σ id = none) :
    ∃ σ' w' r, Post C σ s w σ' s' w' ∧ VRel σ' v r ∧ (Builtin.append_ #[t, u] ty #[c, .int kd (n : Int)]).run P w = .ok r w' := by
  obtain ⟨zv, hzv, hzr⟩ := K.run_zero hz
  have hzs : zv.cells.size = esz := by have := (cV_rel σ zv z hzv).cells.length; simp at this; omega
  have hr : VRels σ (rep n z.cells) (Builtin.zeroCells zv.cells n).toList := by
    rw [zeroCells_list]; exact VRels.flatten_rep (cV_rel σ zv z hzv).cells n
  exact appendA_gen K h hs hzv hzl (run := fun c => (Builtin.append_ #[t, u] ty #[c, .int kd (n : Int)]).run P w) hx hr hr (by rw [rep_length, hzl])
    (fun hbt base sLen sCap hroom => run_appendZ_fits K ht hu hs hb hbt hsm hzr hzs ty base sLen sCap hroom)
    (fun hbt hb0 base sLen sCap hroom hs2 old ho1 => run_appendZ_new K ht hu hs hb hb0 hbt hzr hzs ty base sLen sCap hroom hs2 ho1) ho hn

end

end Go.Qa
end

/- Operation by operation, third part: slices, strings, copy, clear. -/
section
namespace Go.Qa
variable {P : Program} {C : Ctx} {σ : Sig} {T : Tmps} {a : Act} {s : St} {w : World}

theorem natOf_some {v : AV} {n : Nat} (h : natOf v = some n) : ∃ k, v = .int k (.ofNat n) := by
  unfold natOf at h
  split at h
  · rename_i k m; injection h with h; subst h; exact ⟨k, rfl⟩
  · cases h
theorem natOf_rel {v : AV} {c : Value} {n : Nat} (hc : VRel σ v c) (h : natOf v = some n) : ∃ k, c = .int k (n : Int) := by
  obtain ⟨k, rfl⟩ := natOf_some h
  cases hc; exact ⟨k, rfl⟩

/-! ### bounds -/
/-- what an optional operand is, here and there -/
def ORelX (σ : Sig) (T : Tmps) : Option AX → Option Value → Prop
  | none, none => True
  | some y, some d => VRel σ (ev T y) d
  | _, _ => False
theorem cXO_rel (G : GOk C σ) (ht : TRel σ T a.tmps) {x : Option Operand} {y : Option AX} (h : cXO C x = some y) : ORelX σ T y (x.map a.eval) := by
  cases x with
  | none => simp [cXO] at h; subst h; trivial
  | some x =>
    simp only [cXO] at h
    split at h
    · rename_i x' hx; injection h with h; subst h; exact cX_rel G ht hx
    · cases h
/-- a bound: left out, or a number that every greater top lets by -/
def BR (P : Program) (c : Option Value) (dflt n top : Nat) : Prop :=
  (c = none ∧ n = dflt) ∨ ∃ d, c = some d ∧ n ≤ top ∧ ∀ (t : Nat) (code : BoundsCode) (w : World), n ≤ t → (Instr.sliceBound d t code).run P w = .ok n w
theorem bound_run {x : Option AX} {c : Option Value} (hx : ORelX σ T x c) {dflt top n : Nat} (h : bound? x T dflt top = some n) : BR P c dflt n top ∧ (x = none ↔ c = none) := by
  unfold bound? at h
  cases x with
  | none =>
    cases c with
    | some d => exact hx.elim
    | none => simp at h; exact ⟨.inl ⟨rfl, h.symm⟩, by simp⟩
  | some y =>
    cases c with
    | none => exact hx.elim
    | some d =>
      simp only at h
      split at h
      · rename_i m hm
        split at h
        · rename_i hle
          injection h with h; subst h
          rw [ble_iff] at hle
          have hle := of_decide_eq_true hle
          obtain ⟨k, rfl⟩ := natOf_rel (show VRel σ (ev T y) d from hx) hm
          refine ⟨.inr ⟨_, rfl, hle, fun t code w ht => ?_⟩, by simp⟩
          simp [Instr.sliceBound, asIntOf, ht]
        · cases h
      · cases h

theorem sliceBounds_ok {cl ch cm : Option Value} (isSlice : Bool) {len cap m h l th : Nat} (hm : BR P cm cap m cap) (hh : BR P ch len h th) (hth : ∀ d, ch = some d → th ≤ m) (hl : BR P cl 0 l h)
    (hn : ch = none → cm = none) (w : World) : (Instr.sliceBounds isSlice len cap cl ch cm).run P w = .ok (l, h, m) w := by
  rcases hm with ⟨rfl, rfl⟩ | ⟨dm, rfl, hm1, hm2⟩
  · rcases hh with ⟨rfl, rfl⟩ | ⟨dh, rfl, hh1, hh2⟩
    · rcases hl with ⟨rfl, rfl⟩ | ⟨dl, rfl, hl1, hl2⟩
      · simp [Instr.sliceBounds]
      · simp [Instr.sliceBounds, hl2 _ _ _ hl1]
    · have h3 := Nat.le_trans hh1 (hth dh rfl)
      rcases hl with ⟨rfl, rfl⟩ | ⟨dl, rfl, hl1, hl2⟩
      · simp [Instr.sliceBounds, hh2 _ _ _ h3]
      · simp [Instr.sliceBounds, hh2 _ _ _ h3, hl2 _ _ _ hl1]
  · rcases hh with ⟨rfl, rfl⟩ | ⟨dh, rfl, hh1, hh2⟩
    · cases hn rfl
    · have h3 := Nat.le_trans hh1 (hth dh rfl)
      rcases hl with ⟨rfl, rfl⟩ | ⟨dl, rfl, hl1, hl2⟩
      · simp [Instr.sliceBounds, hm2 _ _ _ hm1, hh2 _ _ _ h3]
      · simp [Instr.sliceBounds, hm2 _ _ _ hm1, hh2 _ _ _ h3, hl2 _ _ _ hl1]

theorem addO (b o j : Nat) : ((⟨b, o, none⟩ : Addr).add j) = ⟨b, o + j, none⟩ := add_none b o j

/-- s[lo:hi:max] of a slice -/
theorem op_slSl_ok (K : CtxOk C P) (h : HRel C σ s.get w) {t e esz : Nat} (ht : C.I.under t = some (.slice e)) (hs : C.I.size e = some esz) {x : AX} {lo hi mx : Option AX} {c : Value} {cl ch cm : Option Value}
    (hx : VRel σ (ev T x) c) (hl : ORelX σ T lo cl) (hh : ORelX σ T hi ch) (hm : ORelX σ T mx cm) (hmh : hi = none → mx = none) {nx : ANext} {s' : St} (ho : op_slSl esz x lo hi mx T s = some (nx, s')) :
    ∃ v r, nx = .val v ∧ s' = s ∧ VRel σ v r ∧ (Instr.sliceAt t c cl ch cm).run P w = .ok r w := by
  have hrun : ∀ c, (Instr.sliceAt t c cl ch cm).run P w = (Instr.slice t c cl ch cm).run P w := fun c => by simp [Instr.sliceAt, K.run_under ht]
  unfold op_slSl at ho
  have hnn : ∀ (x : Option AX) (c : Option Value), ORelX σ T x c → (c = none → x = none) := fun x c hxc hc => by
    subst hc; cases x with
    | none => rfl
    | some y => exact hxc.elim
  have hnn' : ∀ (x : Option AX) (c : Option Value), ORelX σ T x c → (x = none → c = none) := fun x c hxc hc => by
    subst hc; cases c with
    | none => rfl
    | some y => exact hxc.elim
  split at ho
  · rename_i hex
    rw [hex] at hx
    split at ho
    · rename_i m h' l e1 e2 e3
      obtain ⟨rfl, rfl⟩ := val_inj ho
      cases hx
      have b1 := (bound_run (P := P) hm e1).1
      have b2 := (bound_run (P := P) hh e2).1
      have b3 := (bound_run (P := P) hl e3).1
      have z1 : m = 0 := by rcases b1 with ⟨_, rfl⟩ | ⟨_, _, hle, _⟩ <;> omega
      have z2 : h' = 0 := by rcases b2 with ⟨_, rfl⟩ | ⟨_, _, hle, _⟩ <;> omega
      subst z1; subst z2
      have z3 : l = 0 := by rcases b3 with ⟨_, rfl⟩ | ⟨_, _, hle, _⟩ <;> omega
      subst z3
      refine ⟨_, _, rfl, rfl, .nilsl, ?_⟩
      rw [hrun]
      simp [Instr.slice, K.run_under ht, sliceBounds_ok true b1 b2 (fun _ _ => Nat.le_refl _) b3 (fun hc => hnn' _ _ hm (hmh (hnn _ _ hh hc))), K.run_size hs]
    · cases ho
  · rename_i id off len cap hex
    rw [hex] at hx
    split at ho
    · rename_i m e1
      split at ho
      · rename_i h' e2
        split at ho
        · rename_i l e3
          obtain ⟨rfl, rfl⟩ := val_inj ho
          cases hx with
          | sl _ _ _ _ p hp hlc =>
            have b1 := (bound_run (P := P) hm e1).1
            have b2 := (bound_run (P := P) hh e2).1
            have b3 := (bound_run (P := P) hl e3).1
            have hmcap : m ≤ cap := by rcases b1 with ⟨_, rfl⟩ | ⟨_, _, hle, _⟩ <;> omega
            have hhm : h' ≤ m := by
              rcases b2 with ⟨hc, rfl⟩ | ⟨_, _, hle, _⟩
              · rcases b1 with ⟨_, rfl⟩ | ⟨_, hcm, _, _⟩
                · exact hlc
                · have := hnn' _ _ hm (hmh (hnn _ _ hh hc)); rw [this] at hcm; cases hcm
              · exact hle
            have hlh : l ≤ h' := by rcases b3 with ⟨_, rfl⟩ | ⟨_, _, hle, _⟩ <;> omega
            refine ⟨_, _, rfl, rfl, .sl id _ (h' - l) (m - l) p hp (by omega), ?_⟩
            rw [hrun]
            simp only [Instr.slice, Sem.run_bind, K.run_under ht, Result.andThen_ok, sliceBounds_ok true b1 b2 (fun _ _ => Nat.le_refl _) b3 (fun hc => hnn' _ _ hm (hmh (hnn _ _ hh hc))), K.run_size hs, Sem.run_pure, Option.map_some, addO]
            rw [beq_iff]
            by_cases hml : m = l
            · simp [hml]
            · simp [hml, Nat.add_assoc]
        · cases ho
      · cases ho
    · cases ho
  · rename_i id off len es hex
    rw [hex] at hx
    cases hx with
    | slo _ _ _ _ xo cap p hp he hxo hlc ho' hdv =>
    split at ho
    · -- without max
      rename_i hes
      rw [beq_iff] at hes
      have hes := of_decide_eq_true hes
      subst hes
      split at ho
      · rename_i h' e2
        split at ho
        · rename_i l e3
          obtain ⟨rfl, rfl⟩ := val_inj ho
          have b1 : BR P cm cap cap cap := .inl ⟨hnn' _ _ hm rfl, rfl⟩
          have b2 := (bound_run (P := P) hh e2).1
          have b3 := (bound_run (P := P) hl e3).1
          have hhl : h' ≤ len := by rcases b2 with ⟨_, rfl⟩ | ⟨_, _, hle, _⟩ <;> omega
          have hlh : l ≤ h' := by rcases b3 with ⟨_, rfl⟩ | ⟨_, _, hle, _⟩ <;> omega
          have hmul : l * es + (cap - l) * es = cap * es := by rw [← Nat.add_mul]; congr 1; omega
          by_cases hcl : cap = l
          · refine ⟨_, .slice (some ⟨p.block, p.base + xo, none⟩) (h' - l) (cap - l), rfl, rfl, ?_, ?_⟩
            · exact .slo id _ (h' - l) es xo (cap - l) p hp he (Nat.le_trans (Nat.add_le_add_left (Nat.mul_le_mul_right _ (Nat.sub_le _ _)) _) hxo) (by omega) (by omega) hdv
            · rw [hrun]
              have hsb := sliceBounds_ok true b1 b2 (fun _ _ => hlc) b3 (fun hc => hnn' _ _ hm (hmh (hnn _ _ hh hc))) w
              simp only [Instr.slice, Sem.run_bind, K.run_under ht, Result.andThen_ok, hsb, K.run_size hs, Sem.run_pure]
              simp [hcl]
          · refine ⟨_, .slice (some ⟨p.block, p.base + (xo + l * es), none⟩) (h' - l) (cap - l), rfl, rfl, ?_, ?_⟩
            · exact .slo id _ (h' - l) es (xo + l * es) (cap - l) p hp he (by omega) (by omega) (fun h0 => by rw [ho' (by omega)]) (Nat.dvd_add hdv (Nat.dvd_mul_left _ _))
            · rw [hrun]
              simp [Instr.slice, K.run_under ht, sliceBounds_ok true b1 b2 (fun _ _ => hlc) b3 (fun hc => hnn' _ _ hm (hmh (hnn _ _ hh hc))), K.run_size hs, hcl, addO, Nat.add_assoc]
        · cases ho
      · cases ho
    · -- with max
      rename_i mx' hes
      rw [beq_iff] at hes
      have hes := of_decide_eq_true hes
      subst hes
      split at ho
      · rename_i m e1
        split at ho
        · rename_i h' e2
          split at ho
          · rename_i l e3
            split at ho
            · rename_i hlm
              rw [blt_iff] at hlm
              have hlm := of_decide_eq_true hlm
              obtain ⟨rfl, rfl⟩ := val_inj ho
              have b1' := (bound_run (P := P) hm e1).1
              have b1 : BR P cm cap m cap ∧ m ≤ len := by
                rcases b1' with ⟨hc, _⟩ | ⟨d, hd, hle, hr⟩
                · cases hnn _ _ hm hc
                · exact ⟨.inr ⟨d, hd, Nat.le_trans hle hlc, hr⟩, hle⟩
              obtain ⟨b1, hml⟩ := b1
              have b2 := (bound_run (P := P) hh e2).1
              have b3 := (bound_run (P := P) hl e3).1
              have hhm : h' ≤ m := by
                rcases b2 with ⟨hc, _⟩ | ⟨_, _, hle, _⟩
                · cases hmh (hnn _ _ hh hc)
                · exact hle
              have hlh : l ≤ h' := by rcases b3 with ⟨_, rfl⟩ | ⟨_, _, hle, _⟩ <;> omega
              have hne : ¬ m = l := by omega
              refine ⟨_, .slice (some ⟨p.block, p.base + (off + l * es), none⟩) (h' - l) (m - l), rfl, rfl, .sl id _ (h' - l) (m - l) p hp (by omega), ?_⟩
              rw [hrun]
              rw [ho' (by omega)]
              simp [Instr.slice, K.run_under ht, sliceBounds_ok true b1 b2 (fun _ _ => Nat.le_refl _) b3 (fun hc => hnn' _ _ hm (hmh (hnn _ _ hh hc))), K.run_size hs, hne, addO, Nat.add_assoc]
            · cases ho
          · cases ho
        · cases ho
      · cases ho
    · cases ho
  · cases ho

end Go.Qa
end

/- Operation by operation, fourth part. -/
section
namespace Go.Qa
variable {P : Program} {C : Ctx} {σ : Sig} {T : Tmps} {a : Act} {s : St} {w : World}

theorem op_slStr_ok (K : CtxOk C P) {t : Nat} (ht : C.I.under t = some .string) {x : AX} {lo hi : Option AX} {c : Value} {cl ch : Option Value} (hx : VRel σ (ev T x) c) (hl : ORelX σ T lo cl) (hh : ORelX σ T hi ch)
    {nx : ANext} {s' : St} (ho : op_slStr x lo hi T s = some (nx, s')) : ∃ v r, nx = .val v ∧ s' = s ∧ VRel σ v r ∧ (Instr.sliceAt t c cl ch none).run P w = .ok r w := by
  unfold op_slStr at ho
  split at ho
  · rename_i b hex
    rw [hex] at hx
    obtain ⟨bs, rfl, hb⟩ := hx.str_inv
    have hsz := str_size hb
    rw [nlen_eq, ← hsz] at ho
    split at ho
    · rename_i h' e2
      split at ho
      · rename_i l e3
        obtain ⟨rfl, rfl⟩ := val_inj ho
        have b1 : BR P none bs.size bs.size bs.size := .inl ⟨rfl, rfl⟩
        have b2 := (bound_run (P := P) hh e2).1
        have b3 := (bound_run (P := P) hl e3).1
        refine ⟨_, .string (bs.extract l h'), rfl, rfl, .str _ _ ?_, ?_⟩
        · rw [ntake_eq, ndrop_eq, ← hb]
          have := ByteArray.data_extract (a := bs) (b := l) (e := h')
          rw [this, Array.toList_extract, List.extract_eq_take_drop, List.map_take, List.map_drop]
        · simp [Instr.sliceAt, Instr.slice, K.run_under ht, sliceBounds_ok false b1 b2 (fun _ _ => Nat.le_refl _) b3 (fun _ => rfl)]
      · cases ho
    · cases ho
  · cases ho

theorem op_slArr_ok (K : CtxOk C P) {t e n esz : Nat} (ht : C.I.under t = some (.array n e) ∨ ∃ q, C.I.under t = some (.pointer q) ∧ C.I.under q = some (.array n e)) (hs : C.I.size e = some esz) {x : AX} {lo hi mx : Option AX} {c : Value} {cl ch cm : Option Value}
    (hx : VRel σ (ev T x) c) (hl : ORelX σ T lo cl) (hh : ORelX σ T hi ch) (hm : ORelX σ T mx cm) (hmh : hi = none → mx = none) {nx : ANext} {s' : St} (ho : op_slArr n esz x lo hi mx T s = some (nx, s')) :
    ∃ v r, nx = .val v ∧ s' = s ∧ VRel σ v r ∧ (Instr.sliceAt t c cl ch cm).run P w = .ok r w := by
  unfold op_slArr at ho
  have hnn : ∀ (x : Option AX) (c : Option Value), ORelX σ T x c → (c = none → x = none) := fun x c hxc hc => by
    subst hc; cases x with
    | none => rfl
    | some y => exact hxc.elim
  have hnn' : ∀ (x : Option AX) (c : Option Value), ORelX σ T x c → (x = none → c = none) := fun x c hxc hc => by
    subst hc; cases c with
    | none => rfl
    | some y => exact hxc.elim
  split at ho
  · rename_i id off hex
    rw [hex] at hx
    split at ho
    · rename_i m e1
      split at ho
      · rename_i h' e2
        split at ho
        · rename_i l e3
          obtain ⟨rfl, rfl⟩ := val_inj ho
          cases hx with
          | ptr _ _ p hp =>
            have b1 := (bound_run (P := P) hm e1).1
            have b2 := (bound_run (P := P) hh e2).1
            have b3 := (bound_run (P := P) hl e3).1
            have hmn : m ≤ n := by rcases b1 with ⟨_, rfl⟩ | ⟨_, _, hle, _⟩ <;> omega
            have hhm : h' ≤ m := by
              rcases b2 with ⟨hc, rfl⟩ | ⟨_, _, hle, _⟩
              · rcases b1 with ⟨_, rfl⟩ | ⟨_, hcm, _, _⟩
                · exact Nat.le_refl _
                · have := hnn' _ _ hm (hmh (hnn _ _ hh hc)); rw [this] at hcm; cases hcm
              · exact hle
            have hlh : l ≤ h' := by rcases b3 with ⟨_, rfl⟩ | ⟨_, _, hle, _⟩ <;> omega
            have hsb := sliceBounds_ok false b1 b2 (fun _ _ => Nat.le_refl _) b3 (fun hc => hnn' _ _ hm (hmh (hnn _ _ hh hc))) w
            refine ⟨_, .slice (some ⟨p.block, p.base + (if m = l then off else off + l * esz), none⟩) (h' - l) (m - l), rfl, rfl, ?_, ?_⟩
            · rw [beq_iff]
              by_cases hml : m = l
              · simp only [hml, decide_true, if_true]; exact .sl id _ _ _ p hp (by omega)
              · simp only [hml, decide_false, if_false]; exact .sl id _ _ _ p hp (by omega)
            · rcases ht with ht | ⟨q, hq1, hq2⟩
              · simp only [Instr.sliceAt, Instr.sureAddr, Sem.run_bind, K.run_under ht, Result.andThen_ok, Sem.run_pure, hsb, K.run_size hs, addO]
                by_cases hml : m = l <;> simp [hml, Nat.add_assoc]
              · simp only [Instr.sliceAt, Instr.slice, asAddr, Sem.run_bind, K.run_under hq1, K.run_under hq2, Result.andThen_ok, Sem.run_pure, hsb, K.run_size hs, addO]
                by_cases hml : m = l <;> simp [hml, Nat.add_assoc]
        · cases ho
      · cases ho
    · cases ho
  · cases ho

theorem fields_toList (fs : List Field) (i : Nat) : (⟨fs⟩ : Array Field)[i]? = fs[i]? := by simp

theorem op_faddr_ok (K : CtxOk C P) {t i n : Nat} {fs : List Field} {f : Field} (ht : C.I.under t = some (.struct ⟨fs⟩)) (hf : fs[i]? = some f) (hn : C.I.size f.type = some (n + 1)) {x : AX} {c : Value} (hx : VRel σ (ev T x) c)
    {nx : ANext} {s' : St} (ho : op_faddr f.offset x T s = some (nx, s')) : ∃ v r, nx = .val v ∧ s' = s ∧ VRel σ v r ∧ (Instr.fieldAt t c i).run P w = .ok r w := by
  unfold op_faddr at ho
  split at ho
  · rename_i id o hex
    rw [hex] at hx
    obtain ⟨rfl, rfl⟩ := val_inj ho
    cases hx with
    | ptr _ _ p hp =>
      refine ⟨_, _, rfl, rfl, .ptr id (o + f.offset) p hp, ?_⟩
      simp [Instr.fieldAt, Instr.sureAddr, K.run_under ht, hf, fieldPlace, K.run_size hn, addO, Nat.add_assoc]
  · cases ho

theorem op_field_ok (K : CtxOk C P) {t i : Nat} {sz : Option Nat} {fs : List Field} {f : Field} (ht : C.I.under t = some (.struct ⟨fs⟩)) (hf : fs[i]? = some f) (ha : C.I.agg f.type = some sz) {x : AX} {c : Value} (hx : VRel σ (ev T x) c)
    {nx : ANext} {s' : St} (ho : op_field sz f.offset x T s = some (nx, s')) : ∃ v r, nx = .val v ∧ s' = s ∧ VRel σ v r ∧ (Instr.field t c i).run P w = .ok r w := by
  unfold op_field at ho
  split at ho
  · rename_i l hex
    rw [hex] at hx
    obtain ⟨v, hv, rfl, rfl⟩ := val?_inj ho
    cases hx with
    | agg _ cs hcs =>
      obtain ⟨y, hy, hr⟩ := part_ok K ha hcs hv
      exact ⟨v, y, rfl, rfl, hr, by simp [Instr.field, K.run_under ht, hf, asAgg, hy]⟩
  · cases ho

theorem op_iaddrA_ok (K : CtxOk C P) {t e n esz : Nat} (ht : C.I.under t = some (.array n e)) (hs : C.I.size e = some esz) {x i : AX} {c d : Value} (hx : VRel σ (ev T x) c) (hi : VRel σ (ev T i) d)
    {nx : ANext} {s' : St} (ho : op_iaddrA n esz x i T s = some (nx, s')) : ∃ v r, nx = .val v ∧ s' = s ∧ VRel σ v r ∧ (Instr.indexAt t c d).run P w = .ok r w := by
  unfold op_iaddrA at ho
  split at ho
  · rename_i id off k hex hk
    rw [hex] at hx
    split at ho
    · rename_i hlt
      rw [blt_iff] at hlt
      have hlt := of_decide_eq_true hlt
      obtain ⟨rfl, rfl⟩ := val_inj ho
      obtain ⟨kk, rfl⟩ := natOf_rel hi hk
      cases hx with
      | ptr _ _ p hp =>
        refine ⟨_, _, rfl, rfl, .ptr id (off + k * esz) p hp, ?_⟩
        have : ((k : Int) < (n : Int)) := by omega
        simp [Instr.indexAt, asIntOf, Instr.sureAddr, K.run_under ht, K.run_size hs, addO, hlt, Nat.add_assoc]
    · cases ho
  · cases ho

theorem op_iaddrS_ok (K : CtxOk C P) {t e esz : Nat} (ht : C.I.under t = some (.slice e)) (hs : C.I.size e = some esz) {x i : AX} {c d : Value} (hx : VRel σ (ev T x) c) (hi : VRel σ (ev T i) d)
    {nx : ANext} {s' : St} (ho : op_iaddrS esz x i T s = some (nx, s')) : ∃ v r, nx = .val v ∧ s' = s ∧ VRel σ v r ∧ (Instr.indexAt t c d).run P w = .ok r w := by
  unfold op_iaddrS at ho
  split at ho
  · rename_i id off len _ k hex hk
    rw [hex] at hx
    split at ho
    · rename_i hlt
      rw [blt_iff] at hlt
      have hlt := of_decide_eq_true hlt
      obtain ⟨rfl, rfl⟩ := val_inj ho
      obtain ⟨kk, rfl⟩ := natOf_rel hi hk
      cases hx with
      | sl _ _ _ _ p hp _ =>
        refine ⟨_, _, rfl, rfl, .ptr id (off + k * esz) p hp, ?_⟩
        simp [Instr.indexAt, asIntOf, K.run_under ht, K.run_size hs, addO, hlt, Nat.add_assoc]
    · cases ho
  · rename_i id off len _ k hex hk
    rw [hex] at hx
    split at ho
    · rename_i hlt
      rw [blt_iff] at hlt
      have hlt := of_decide_eq_true hlt
      obtain ⟨rfl, rfl⟩ := val_inj ho
      obtain ⟨kk, rfl⟩ := natOf_rel hi hk
      cases hx with
      | slo _ _ _ _ xo cap p hp he hxo hlc ho' hdv =>
        refine ⟨_, _, rfl, rfl, .ptr id (off + k * esz) p hp, ?_⟩
        rw [ho' (by omega)]
        simp [Instr.indexAt, asIntOf, K.run_under ht, K.run_size hs, addO, hlt, Nat.add_assoc]
    · cases ho
  · cases ho

theorem op_indexA_ok (K : CtxOk C P) {t e n esz : Nat} {sz : Option Nat} (ht : C.I.under t = some (.array n e)) (hs : C.I.size e = some esz) (ha : C.I.agg e = some sz) {x i : AX} {c d : Value} (hx : VRel σ (ev T x) c) (hi : VRel σ (ev T i) d)
    {nx : ANext} {s' : St} (ho : op_indexA n esz sz x i T s = some (nx, s')) : ∃ v r, nx = .val v ∧ s' = s ∧ VRel σ v r ∧ (Instr.index t c d).run P w = .ok r w := by
  unfold op_indexA at ho
  split at ho
  · rename_i l k hex hk
    rw [hex] at hx
    split at ho
    · rename_i hlt
      rw [blt_iff] at hlt
      have hlt := of_decide_eq_true hlt
      obtain ⟨v, hv, rfl, rfl⟩ := val?_inj ho
      obtain ⟨kk, rfl⟩ := natOf_rel hi hk
      cases hx with
      | agg _ cs hcs =>
        obtain ⟨y, hy, hr⟩ := part_ok K ha hcs hv
        exact ⟨v, y, rfl, rfl, hr, by simp [Instr.index, asIntOf, K.run_under ht, K.run_size hs, hlt, hy]⟩
    · cases ho
  · cases ho

theorem op_indexS_ok (K : CtxOk C P) {t : Nat} (ht : C.I.under t = some .string) {x i : AX} {c d : Value} (hx : VRel σ (ev T x) c) (hi : VRel σ (ev T i) d)
    {nx : ANext} {s' : St} (ho : op_indexS x i T s = some (nx, s')) : ∃ v r, nx = .val v ∧ s' = s ∧ VRel σ v r ∧ (Instr.index t c d).run P w = .ok r w := by
  unfold op_indexS at ho
  split at ho
  · rename_i l k hex hk
    rw [hex] at hx
    split at ho
    · rename_i b hb
      obtain ⟨rfl, rfl⟩ := val_inj ho
      obtain ⟨kk, rfl⟩ := natOf_rel hi hk
      obtain ⟨bs, rfl, hbs⟩ := hx.str_inv
      rw [nget_eq, ← hbs, List.getElem?_map] at hb
      have hb' : ∃ u, bs.data.toList[k]? = some u ∧ u.toNat = b := by
        cases hu : bs.data.toList[k]? with
        | none => rw [hu] at hb; cases hb
        | some u => rw [hu] at hb; simp at hb; exact ⟨u, rfl, hb⟩
      obtain ⟨u, hu, rfl⟩ := hb'
      have hlt : k < bs.size := by
        have := (List.getElem?_eq_some_iff.1 hu).1
        rw [Array.length_toList] at this
        exact this
      refine ⟨_, .int .u8 (u.toNat : Int), rfl, rfl, .int .u8 _, ?_⟩
      have hget : bs[k]? = some u := by
        have h1 : bs[k]? = some bs[k] := by simp [hlt]
        rw [h1]
        congr 1
        have h2 := (List.getElem?_eq_some_iff.1 hu).2
        rw [← h2]; rfl
      simp [Instr.index, asIntOf, K.run_under ht, hget]
    · cases ho
  · cases ho

theorem op_extract_ok {i : Nat} {x : AX} {c : Value} (hx : VRel σ (ev T x) c) {nx : ANext} {s' : St} (ho : op_extract x i T s = some (nx, s')) :
    ∃ v r, nx = .val v ∧ s' = s ∧ VRel σ v r ∧ (Instr.extract c i).run P w = .ok r w := by
  unfold op_extract at ho
  split at ho
  · rename_i l hex
    rw [hex] at hx
    obtain ⟨v, hv, rfl, rfl⟩ := val?_inj ho
    cases hx with
    | tup _ cs hcs =>
      rw [lget_eq] at hv
      obtain ⟨y, hy, hr⟩ := hcs.get hv
      have hy' : cs[i]? = some y := by simpa using hy
      exact ⟨v, y, rfl, rfl, hr, by simp [Instr.extract, hy']⟩
  · cases ho

theorem op_s2ap_ok (K : CtxOk C P) {t e n : Nat} (ht : C.I.under t = some (.array n e)) {x : AX} {c : Value} (hx : VRel σ (ev T x) c) {nx : ANext} {s' : St} (ho : op_s2ap n x T s = some (nx, s')) :
    ∃ v r, nx = .val v ∧ s' = s ∧ VRel σ v r ∧ (Instr.arrayAt t c).run P w = .ok r w := by
  unfold op_s2ap at ho
  split at ho
  · rename_i id off len _ hex
    rw [hex] at hx
    split at ho
    · rename_i hle
      rw [ble_iff] at hle
      have hle := of_decide_eq_true hle
      obtain ⟨rfl, rfl⟩ := val_inj ho
      cases hx with
      | sl _ _ _ _ p hp _ => exact ⟨_, _, rfl, rfl, .ptr id off p hp, by simp [Instr.arrayAt, K.run_under ht, Nat.not_lt.2 hle]⟩
    · cases ho
  · rename_i id off len _ hex
    rw [hex] at hx
    split at ho
    · rename_i hle
      rw [ble_iff] at hle
      have hle := of_decide_eq_true hle
      obtain ⟨rfl, rfl⟩ := val_inj ho
      cases hx with
      | slo _ _ _ _ xo cap p hp he hxo hlc ho' hdv =>
        rw [ho' (by omega)]
        exact ⟨_, _, rfl, rfl, .ptr id off p hp, by simp [Instr.arrayAt, K.run_under ht, Nat.not_lt.2 hle]⟩
    · cases ho
  · cases ho

theorem op_pick_ok {c a b : AX} {vc va vb : Value} (hc : VRel σ (ev T c) vc) (ha : VRel σ (ev T a) va) (hb : VRel σ (ev T b) vb) {nx : ANext} {s' : St} (ho : op_pick c a b T s = some (nx, s')) :
    ∃ v r, nx = .val v ∧ s' = s ∧ VRel σ v r ∧ ∃ t, vc = .bool t ∧ r = if t then va else vb := by
  unfold op_pick at ho
  split at ho
  · rename_i hex; rw [hex] at hc; cases hc; obtain ⟨rfl, rfl⟩ := val_inj ho; exact ⟨_, _, rfl, rfl, ha, true, rfl, rfl⟩
  · rename_i hex; rw [hex] at hc; cases hc; obtain ⟨rfl, rfl⟩ := val_inj ho; exact ⟨_, _, rfl, rfl, hb, false, rfl, rfl⟩
  · cases ho

theorem i64_small {m : Nat} (h : m * 4096 ≤ 1099511627776) : IntKind.i64.wrap (m : Int) = m :=
  by rw [IntKind.wrap_i64]; omega

theorem op_mksl_ok (K : CtxOk C P) (h : HRel C σ s.get w) {t e esz bt : Nat} {z : AV} (ht : C.I.under t = some (.slice e)) (hs : C.I.size e = some esz) (hb : C.I.bytes e = some bt) (hz : C.I.zero e = some z) {l c : AX} {vl vc : Value}
    (hl : VRel σ (ev T l) vl) (hc : VRel σ (ev T c) vc) {nx : ANext} {s' : St} (hn : ∀ id, s.next ≤ id → id < s'.next → σ id = none) (ho : op_mksl e bt esz z.cells l c T s = some (nx, s')) :
    ∃ v r σ' w', nx = .val v ∧ Post C σ s w σ' s' w' ∧ VRel σ' v r ∧ (Instr.makeSlice t vl vc).run P w = .ok r w' := by
  unfold op_mksl at ho
  split at ho
  · rename_i l' c' el ec
    split at ho
    · rename_i h1 h2 h3 h4
      split at ho
      · rename_i h5
        rw [ble_iff] at h1 h2 h3
        rw [beq_iff, llen_eq] at h5
        have h1 := of_decide_eq_true h1
        have h2 : c' * 4096 ≤ 1099511627776 := of_decide_eq_true h2
        have h3 := of_decide_eq_true h3
        have h5 := of_decide_eq_true h5
        obtain ⟨rfl, rfl⟩ := val_inj ho
        obtain ⟨k1, rfl⟩ := natOf_rel hl el
        obtain ⟨k2, rfl⟩ := natOf_rel hc ec
        obtain ⟨zv, hzv, hzr⟩ := K.run_zero hz
        have hzs : zv.cells.size = esz := by have := (cV_rel σ zv z hzv).cells.length; simp at this; omega
        have hn0 : σ s.next = none := hn _ (Nat.le_refl _) (Nat.lt_succ_self _)
        obtain ⟨i, hi, hib⟩ := Ti.bytes_info hb
        have hti := fun w => K.run_info hi w
        have hcells : VRels σ (rep c' z.cells) ((Array.range (c' * esz)).map (zv.cells[· % zv.cells.size]!)).toList := by
          rw [← hzs, map_range_rep]; exact VRels.flatten_rep (cV_rel σ zv z hzv).cells c'
        have hw1 := fun m hm => i64_small (m := m) hm
        have hwl := hw1 l' (Nat.le_trans (Nat.mul_le_mul_right _ h1) h2)
        have hwc := hw1 c' h2
        have hbig : ¬ ((bt : Int) * (c' : Int) > 2 ^ 48) := by
          have : bt * c' ≤ 4096 * c' := Nat.mul_le_mul_right _ h3
          have h6 : bt * c' ≤ 281474976710656 := by omega
          have h7 : ((bt * c' : Nat) : Int) ≤ 281474976710656 := by omega
          rw [Int.natCast_mul] at h7
          have h8 : (2 : Int) ^ 48 = 281474976710656 := by decide
          rw [h8]
          exact Int.not_lt.2 h7
        have hneg : ¬ ((c' : Int) < 0) := by omega
        have hlneg : ¬ ((l' : Int) < 0) := by omega
        have hlc : ¬ ((l' : Int) > (c' : Int)) := by omega
        refine ⟨_, .slice (some ⟨w.heap.size, 0, none⟩) l' c', _, _, rfl, post_cells h hn0 hcells e, .sl s.next 0 l' c' _ (Sig.ins_self _ _ _) h1, ?_⟩
        simp only [Instr.makeSlice, asInt, asIntOf, Sem.run_bind, K.run_under ht, Result.andThen_ok, Sem.run_pure, hti, hib, hwl, hwc]
        simp only [hneg, hbig, hlneg, hlc, decide_false, Bool.or_false, Bool.false_eq_true, if_false, false_or, or_self, run_askRoom, Result.andThen_ok, K.run_size hs, Sem.run_bind, Int.toNat_natCast]
        by_cases hz0 : c' * esz = 0
        · have hr0 : Array.range 0 = #[] := rfl
          simp [hz0, newRow, hr0]
        · simp [hz0, hzr, newRow]
      · cases ho
    · cases ho
  · cases ho

end Go.Qa
end

/- Operation by operation, fifth part: conversions, freezing, copies, lengths. -/
section
namespace Go.Qa
variable {P : Program} {C : Ctx} {σ : Sig} {T : Tmps} {a : Act} {s : St} {w : World}

def frz (fr : Nat × Nat) (o n : Nat) : Nat × Nat := if fr.1 == fr.2 then (o, o + n) else (min fr.1 o, max fr.2 (o + n))
theorem freeze_row {b : Nat} {cc : Array Value} {el : Nat} {fr : Nat × Nat} (h : w.heap[b]? = some (.cells cc el fr)) (o n : Nat) (hn : n ≠ 0) :
    w.freeze ⟨b, o, none⟩ n = World.row w b (.cells cc el (frz fr o n)) := by
  obtain ⟨hb, e⟩ := Array.getElem?_eq_some_iff.1 h
  unfold World.freeze World.row
  rw [if_neg hn]
  congr 1
  apply Array.ext
  · simp
  · intro i h1 h2
    rw [Array.getElem_modify, Array.getElem_setIfInBounds]
    by_cases hi : b = i
    · subst hi; obtain ⟨lo, hi'⟩ := fr; simp [e, frz]
    · rw [if_neg hi, if_neg hi]

theorem run_markStringish {b : Nat} {cc : Array Value} {el : Nat} {fr : Nat × Nat} (h : w.heap[b]? = some (.cells cc el fr)) (o : Nat) (sp : Option Nat) :
    (markStringish ⟨b, o, sp⟩).run P w = .ok () (World.row w b (.cells cc el (frz fr cc.size 1))) := by
  simp [markStringish, shape_cells h, freeze_row h cc.size 1 (by decide)]

theorem frz_free {fr : Nat × Nat} {top n k : Nat} (h : fr.1 = fr.2 ∨ top ≤ fr.1) (hn : top ≤ n) : (frz fr n k).1 = (frz fr n k).2 ∨ top ≤ (frz fr n k).1 := by
  unfold frz
  by_cases e : fr.1 = fr.2
  · right; simp [e, hn]
  · right
    have : top ≤ fr.1 := h.resolve_left e
    simp [e]
    omega

theorem bytesOf_some : ∀ {c : List AV} {b : List Nat}, bytesOf c = some b → ∀ {cs : List Value}, VRels σ c cs → cs = (b.map fun n : Nat => Value.int .u8 (n : Int)) ∧ ∀ n ∈ b, n < 256
  | [], b, h, cs, hc => by simp [bytesOf] at h; subst h; cases hc; simp
  | v :: l, b, h, cs, hc => by
    cases v with
    | int k n =>
      cases k <;> cases n <;> first | (simp [bytesOf] at h; done) | skip
      simp only [bytesOf, blt_iff] at h
      split at h
      · rename_i r hlt hr
        injection h with h
        subst h
        cases hc with
        | cons _ c _ cs hv hl =>
          cases hv
          obtain ⟨h1, h2⟩ := bytesOf_some hr hl
          refine ⟨by rw [h1]; rfl, ?_⟩
          intro n hn
          rcases List.mem_cons.1 hn with e | e
          · subst e; exact of_decide_eq_true hlt
          · exact h2 n e
      · cases h
    | _ => simp [bytesOf] at h

theorem push_fold : ∀ (b : List Nat) (r : ByteArray), (b.foldl (fun r n => r.push (UInt8.ofNat ((n : Int).toNat))) r).data.toList = r.data.toList ++ b.map UInt8.ofNat
  | [], r => by simp
  | n :: b, r => by rw [List.foldl_cons, push_fold b]; simp [ByteArray.push]

theorem ofNat_map {b : List Nat} (h : ∀ n ∈ b, n < 256) : (b.map UInt8.ofNat).map (·.toNat) = b := by
  rw [List.map_map]
  conv => rhs; rw [← List.map_id b]
  apply List.map_congr_left
  intro n hn
  simp [UInt8.toNat_ofNat']
  exact h n hn

/-- the string of a row of bytes -/
theorem toStr_run {x : AV} {c : Value} {len : Nat} (h : HRel C σ s.get w) (hx : VRel σ x c) (ha : ∃ (ad : Addr) (cap : Nat), c = .slice (some ad) len cap) {r : List AV} (hr : firstA s 1 len x = some r) {b : List Nat} (hb : bytesOf r = some b) :
    ∃ v, (Conv.bytesToString c).run P w = .ok v w ∧ VRel σ (.str b) v := by
  obtain ⟨ad, cap, rfl⟩ := ha
  obtain ⟨arr, h1, h2⟩ := firstA_ok (P := P) h hx hr
  simp only [Builtin.firstCells, Nat.mul_one] at h1
  obtain ⟨h3, h4⟩ := bytesOf_some hb h2
  have h5 : arr = ((b.map fun n : Nat => (n : Int)).map (Value.int .u8)).toArray := by
    apply Array.toList_inj.1
    rw [h3]
    simp
  rw [h5] at h1
  refine ⟨_, run_bytesToString w ad len cap _ h1, .str _ _ ?_⟩
  rw [List.foldl_map, push_fold]
  have e0 : ByteArray.empty.data.toList = [] := rfl
  rw [e0, List.nil_append]
  exact ofNat_map h4

theorem viewAt_row {b : Nat} {cc : Array Value} {el : Nat} {fr : Nat × Nat} (h : w.heap[b]? = some (.cells cc el fr)) : (viewAt b).run P w = .ok none w := by
  simp [viewAt, shape_cells h]

theorem info_size (K : CtxOk C P) {t n : Nat} (h : C.I.size t = some n) : P.cellsOf t = n := by
  obtain ⟨i, hi, hn⟩ := Ti.size_info h
  simp [Program.cellsOf, K.info t i hi, hn]

/-- so many variables of the row's own type, from one of its elements on -/
theorem liesAt_own {e sz : Nat} (hc : P.cellsOf e = sz) (h0 : sz ≠ 0) {count off n : Nat} (hd : sz ∣ off) (hn : off / sz + n ≤ count) : liesAt P P.depth e count off e n = true := by
  have hdp : P.depth = (2 * (P.types.size + Made.depth) + 1) + 1 := rfl
  rw [hdp]
  simp only [liesAt, Bool.or_eq_true]
  left
  rw [hdp]
  have hm : off % sz = 0 := Nat.mod_eq_zero_of_dvd hd
  simp [rowAt, hc, h0, hm, hn, sameLayout]

theorem push_set {α : Type} (l : Array α) (x y : α) : (l.push x).setIfInBounds l.size y = l.push y := by
  apply Array.toList_inj.1
  simp [List.set_append]
theorem row_alloc (w : World) (o o' : Obj) : World.row (w.alloc o) w.heap.size o' = w.alloc o' := by
  unfold World.row World.alloc
  simp only [push_set]
theorem run_newA (o : Obj) (w : World) : (newObj o).run P w = .ok w.heap.size (w.alloc o) := rfl

theorem op_conv_ok (K : CtxOk C P) (h : HRel C σ s.get w) {src dst : Nat} {cv : CvK} (hcv : cConv C src dst = some cv) {x : AX} {d : Value} (hx : VRel σ (ev T x) d) {nx : ANext} {s' : St}
    (hn : ∀ id, s.next ≤ id → id < s'.next → σ id = none) (ho : op_conv cv x T s = some (nx, s')) :
    ∃ v r σ' w', nx = .val v ∧ Post C σ s w σ' s' w' ∧ VRel σ' v r ∧ (convert src dst d).run P w = .ok r w' := by
  have keep : ∀ {v : AV} {r : Value}, VRel σ v r → (convert src dst d).run P w = .ok r w → (nx = .val v ∧ s' = s) → ∃ v r σ' w', nx = .val v ∧ Post C σ s w σ' s' w' ∧ VRel σ' v r ∧ (convert src dst d).run P w = .ok r w' :=
    fun {v r} hv hr e => ⟨v, r, σ, w, e.1, by rw [e.2]; exact .refl h, hv, hr⟩
  have u8 : ∀ e, isU8 C.I e = true → C.I.under e = some (.int .u8) := fun e he => by
    unfold isU8 at he
    split at he
    · assumption
    · cases he
  unfold cConv at hcv
  split at hcv
  · -- between integers
    rename_i k' k hu1 hu2
    injection hcv with hcv; subst hcv
    cases hex : ev T x <;> simp only [op_conv, hex] at ho <;> first | (cases ho; done) | skip
    rw [hex] at hx
    cases hx
    refine keep (.int _ _) ?_ (val_inj ho)
    simp [convert, K.run_under hu1, K.run_under hu2, Conv.intToInt, wrapA_eq]
  · rename_i hu1 hu2
    injection hcv with hcv; subst hcv
    cases hex : ev T x <;> simp only [op_conv, hex] at ho <;> first | (cases ho; done) | skip
    rw [hex] at hx
    obtain ⟨bs, rfl, hb⟩ := hx.str_inv
    refine keep (.str _ bs hb) ?_ (val_inj ho)
    simp [convert, K.run_under hu1, K.run_under hu2]
  · rename_i e hu1 hu2
    split at hcv
    · rename_i he
      injection hcv with hcv; subst hcv
      have hrun : ∀ o l c, (convert src dst (.slice o l c)).run P w = (Conv.bytesToString (.slice o l c)).run P w := fun o l c => by
        simp [convert, K.run_under hu1, K.run_under hu2, K.run_under (u8 e he)]
      cases hex : ev T x <;> simp only [op_conv, hex] at ho <;> first | (cases ho; done) | skip
      all_goals rw [hex] at hx
      · cases hx
        refine keep (.str [] ByteArray.empty rfl) ?_ (val_inj ho)
        rw [hrun]; rfl
      · rename_i id off len cap
        split at ho
        · rename_i c' hc'
          split at ho
          · rename_i b hb
            cases hx with
            | sl _ _ _ _ p hp hl =>
              obtain ⟨v, h1, h2⟩ := toStr_run (P := P) h (.sl id off len cap p hp hl) ⟨_, _, rfl⟩ hc' hb
              exact keep h2 (by rw [hrun]; exact h1) (val_inj ho)
          · cases ho
        · cases ho
      · rename_i id off len e'
        split at ho
        · rename_i c' hc'
          split at ho
          · rename_i b hb
            cases hx with
            | slo _ _ _ _ xo cap p hp he' hxo hl ho' hdv =>
              obtain ⟨v, h1, h2⟩ := toStr_run (P := P) h (.slo id off len e' xo cap p hp he' hxo hl ho' hdv) ⟨_, _, rfl⟩ hc' hb
              exact keep h2 (by rw [hrun]; exact h1) (val_inj ho)
          · cases ho
        · cases ho
    · cases hcv
  · rename_i e hu1 hu2
    split at hcv
    · rename_i he
      injection hcv with hcv; subst hcv
      cases hex : ev T x <;> simp only [op_conv, hex] at ho <;> first | (cases ho; done) | skip
      rename_i b0
      rw [hex] at hx
      obtain ⟨bs, rfl, hb⟩ := hx.str_inv
      split at ho
      · rename_i hbig1 hbig2
        obtain ⟨rfl, rfl⟩ := val_inj ho
        have hsz := str_size hb
        have hbig := blt_big hbig2
        rw [nlen_eq, ← hsz] at hbig
        have hn0 : σ s.next = none := hn _ (Nat.le_refl _) (Nat.lt_succ_self _)
        let cap := grownCap w bs.size 0 e
        have hcap : bs.size ≤ cap := grownCap_ge w 0 e (by omega)
        let cells : Array Value := bs.data.map (fun b => Value.int .u8 (b.toNat : Int)) ++ Array.replicate (cap - bs.size) (.int .u8 0)
        have hcs : cells.size = cap := by
          simp only [cells, Array.size_append, Array.size_map, Array.size_replicate]
          have : bs.data.size = bs.size := rfl
          omega
        have hrow : (w.drew.alloc (.cells cells e)).heap[w.heap.size]? = some (.cells cells e (0, 0)) := heap_alloc_new w.drew _
        refine ⟨_, .slice (some ⟨w.heap.size, 0, none⟩) bs.size cap, σ.ins s.next ⟨w.heap.size, 0, cap⟩, w.drew.alloc (.cells cells e (cap, cap + 1)), rfl, ?_, ?_, ?_⟩
        · refine (post_new (w := w.drew) h.drew hn0 _ _ 0 cap ?_).drew
          refine ⟨cells, (cap, cap + 1), rfl, by simp only; omega, ?_, ?_, .inr (by simp only; omega), (fun h => by cases h), fun n _ => Nat.dvd_zero n⟩
          · simp only
            rw [← hb, (ofBytes_rel σ bs.data.toList).length]
            simp
            have : bs.data.size = bs.size := rfl
            omega
          · have h1 := ofBytes_rel (σ.ins s.next ⟨w.drew.heap.size, 0, cap⟩) bs.data.toList
            have h2 : (cells.toList.drop 0).take (ofBytes b0).length = bs.data.toList.map fun b => Value.int .u8 (b.toNat : Int) := by
              rw [← hb, h1.length, List.drop_zero]
              simp only [cells, Array.toList_append, Array.toList_map]
              rw [List.take_left']
              rfl
            rw [h2, ← hb]
            exact h1
        · have := VRel.slo (σ := σ.ins s.next ⟨w.heap.size, 0, cap⟩) s.next 0 (nlen b0) 1 0 cap _ (Sig.ins_self _ _ _) (by decide) (by simp only; omega) (by rw [nlen_eq, ← hsz]; exact hcap) (fun _ => rfl) (Nat.dvd_zero _)
          rw [nlen_eq, ← hsz] at this ⊢
          simpa using this
        · have hc : (choose (.appendCap bs.size 0 e)).run P w = .ok cap w.drew := by
            simp [Question.forced, cap, grownCap]
          have hrun : (convert src dst (.string bs)).run P w = (Conv.stringToBytes e bs).run P w := by
            simp [convert, K.run_under hu1, K.run_under hu2, K.run_under (u8 e he)]
          rw [hrun]
          have hm : (markStringish ⟨w.drew.heap.size, 0, none⟩).run P (w.drew.alloc (.cells cells e)) = .ok () (World.row (w.drew.alloc (.cells cells e)) w.heap.size (.cells cells e (cap, cap + 1))) := by
            have := run_markStringish (P := P) hrow 0 none
            rw [hcs] at this
            exact this
          have hrow2 : World.row (w.drew.alloc (.cells cells e)) w.heap.size (.cells cells e (cap, cap + 1)) = w.drew.alloc (.cells cells e (cap, cap + 1)) := by
            exact row_alloc w.drew _ _
          rw [hrow2] at hm
          unfold Conv.stringToBytes
          simp only [Sem.run_bind, hc, Result.andThen_ok, newRow, run_newA, Sem.run_pure]
          have e1 : (bs.data.map (fun b => Value.int .u8 (b.toNat : Int)) ++ Array.replicate (cap - bs.size) (.int .u8 0)) = cells := rfl
          rw [e1]
          rw [hm]
          rfl
      · cases ho
    · cases hcv
  · -- bytes that a string may share
    rename_i e0 e hu1 hu2
    split at hcv
    · rename_i hsd he
      rw [beq_iff] at hsd
      have hsd := of_decide_eq_true hsd
      subst hsd
      injection hcv with hcv; subst hcv
      have he1 : e0 = e := by rw [hu1] at hu2; injection hu2 with hu2; injection hu2
      subst he1
      have hmark : ∀ {id off : Nat} {v : AV} {c : List AV} {el : Nat} {fz : Bool} {p : Place} {l cp : Nat}, s.cells id = some (c, el, fz) → σ id = some p → ∀ {x0 : Nat}, VRel σ v (.slice (some ⟨p.block, x0, none⟩) l cp) →
          ∃ w', Post C σ s w σ (s.set id (.cells c el true)) w' ∧ (convert src src (.slice (some ⟨p.block, x0, none⟩) l cp)).run P w = .ok (.slice (some ⟨p.block, x0, none⟩) l cp) w' := fun {id off v c el fz p l cp} hcs hp {x0} hv => by
        obtain ⟨q, cc, fr, hq, L⟩ := h.live hcs
        rw [hp] at hq; injection hq with hq; subst hq
        have hg : s.get id ≠ none := by rw [St.cells_some hcs]; simp
        refine ⟨World.row w p.block (.cells cc el (frz fr cc.size 1)), ?_, ?_⟩
        · refine post_mod h hg hp rfl rfl rfl rfl (fun j hj => by rw [St.get_set hg, if_neg hj]) (fun b hb => row_get_other hb) (by simp [World.row]) rfl rfl rfl ?_
          intro o hoo
          rw [St.get_set hg, if_pos rfl] at hoo
          injection hoo with hoo; subst hoo
          exact ⟨cc, _, row_get_same L.at_, L.fits, L.len, L.rel, frz_free L.free0 L.fits, (fun hh => by cases hh), L.dvd⟩
        · have hd : (src == src) = true := by simp
          simp [convert, K.run_under hu1, K.run_under (u8 _ he), run_markStringish L.at_]
      cases hex : ev T x <;> simp only [op_conv, hex] at ho <;> first | (cases ho; done) | skip
      all_goals rw [hex] at hx
      · rename_i id off len cap
        split at ho <;> first | (cases ho; done) | skip
        rename_i c el fz hcs
        cases hx with
        | sl _ _ _ _ p hp hl =>
          obtain ⟨w', h1, h2⟩ := hmark (off := off) hcs hp (VRel.sl id off len cap p hp hl)
          obtain ⟨rfl, rfl⟩ := val_inj ho
          exact ⟨_, _, σ, w', rfl, h1, .sl id off len cap p hp hl, h2⟩
      · rename_i id off len e'
        split at ho <;> first | (cases ho; done) | skip
        rename_i c el fz hcs
        cases hx with
        | slo _ _ _ _ xo cap p hp he' hxo hl ho' hdv =>
          obtain ⟨w', h1, h2⟩ := hmark (off := off) hcs hp (VRel.slo id off len e' xo cap p hp he' hxo hl ho' hdv)
          obtain ⟨rfl, rfl⟩ := val_inj ho
          exact ⟨_, _, σ, w', rfl, h1, .slo id off len e' xo cap p hp he' hxo hl ho' hdv, h2⟩
    · cases hcv
  · -- a raw pointer
    rename_i t hu1 hu2
    split at hcv
    · rename_i n hsz
      injection hcv with hcv; subst hcv
      cases hex : ev T x <;> simp only [op_conv, hex] at ho <;> first | (cases ho; done) | skip
      rename_i id off
      rw [hex] at hx
      split at ho
      · rename_i c el fz hn0 hcs
        split at ho
        · rename_i hlt
          cases hx with
          | ptr _ _ p hp =>
            obtain ⟨q, cc, fr, hq, L⟩ := h.live hcs
            rw [hp] at hq; injection hq with hq; subst hq
            rw [blt_iff, llen_eq] at hlt
            have hlt := of_decide_eq_true hlt
            rw [beq_iff] at hn0
            have hn0 := of_decide_eq_false hn0
            refine keep (.ptr id off p hp) ?_ (val_inj ho)
            have hl := L.len
            have hf := L.fits
            have hns : ¬ (cc.size ≤ p.base + off) := by omega
            simp [convert, K.run_under hu1, K.run_under hu2, Conv.unsafePointer, Conv.seenAt, viewAt_row L.at_, K.run_size hsz, hn0, cellsIn, shape_cells L.at_, hns]
        · cases ho
      · cases ho
    · cases hcv
  · rename_i u hu1 hu2
    split at hcv
    · rename_i n hsz
      injection hcv with hcv; subst hcv
      cases hex : ev T x <;> simp only [op_conv, hex] at ho <;> first | (cases ho; done) | skip
      rename_i id off
      rw [hex] at hx
      cases off with
      | succ o => simp at ho
      | zero =>
        simp only at ho
        split at ho
        · rename_i c el fz hcs
          split at ho
          · rename_i h1 h2 h3
            cases hx with
            | ptr _ _ p hp =>
              obtain ⟨q, cc, fr, hq, L⟩ := h.live hcs
              rw [hp] at hq; injection hq with hq; subst hq
              rw [beq_iff] at h1 h2 h3
              have h1 := of_decide_eq_true h1
              have h2 := of_decide_eq_true h2
              have h3 := of_decide_eq_false h3
              subst h1
              rw [llen_eq] at h2
              refine keep (.ptr id 0 p hp) ?_ (val_inj ho)
              have hl := L.len
              have hf := L.fits
              have hd := L.dvd _ hsz
              have hle : p.base / n + 1 ≤ cc.size / n := by
                obtain ⟨k, hk⟩ := hd
                rw [hk, Nat.mul_div_cancel_left _ (Nat.pos_of_ne_zero h3)]
                rw [Nat.le_div_iff_mul_le (Nat.pos_of_ne_zero h3), Nat.add_mul, Nat.one_mul, Nat.mul_comm]
                omega
              have hlies := liesAt_own (P := P) (info_size K hsz) h3 hd hle
              simp [convert, K.run_under hu1, K.run_under hu2, Conv.unsafePointer, Conv.seenAt, viewAt_row L.at_, K.run_size hsz, h3, variablesAt, shape_cells L.at_, info_size K hsz, hlies]
          · cases ho
        · cases ho
    · cases hcv
  · cases hcv

end Go.Qa
end

/- Operation by operation, sixth part: copy, lengths, clear, min, max, unsafe, functions. -/
section
namespace Go.Qa
variable {P : Program} {C : Ctx} {σ : Sig} {T : Tmps} {a : Act} {s : St} {w : World}

/-- writing over a live block: the state after it -/
theorem over_post (h : HRel C σ s.get w) {id off : Nat} {c c' : List AV} {el : Nat} {fz : Bool} (hcs : s.cells id = some (c, el, fz)) {p : Place} (hp : σ id = some p) {new : List AV} (hov : over? c off new = some c') {xs : List Value} (hx : VRels σ new xs) :
    ∃ w', Post C σ s w σ (s.set id (.cells c' el fz)) w' ∧ (storeCells ⟨p.block, p.base + off, none⟩ xs).run P w = .ok () w' := by
  obtain ⟨q, cc, fr, hq, L⟩ := h.live hcs
  rw [hp] at hq; injection hq with hq; subst hq
  obtain ⟨cc', g1, g2⟩ := L.over (P := P) hov hx
  have hg : s.get id ≠ none := by rw [St.cells_some hcs]; simp
  refine ⟨_, ?_, g1⟩
  refine post_mod h hg hp rfl rfl rfl rfl (fun j hj => by rw [St.get_set hg, if_neg hj]) (fun b hb => row_get_other hb) (by simp [World.row]) rfl rfl rfl ?_
  intro o hoo
  rw [St.get_set hg, if_pos rfl] at hoo
  injection hoo with hoo; subst hoo
  exact g2.orel

theorem op_copy_ok (K : CtxOk C P) (h : HRel C σ s.get w) {t e esz : Nat} (ht : C.I.under t = some (.slice e)) (hs : C.I.size e = some esz) {ts : List Nat} {ty : Nat} {d x : AX} {vd vx : Value} (hd : VRel σ (ev T d) vd) (hx : VRel σ (ev T x) vx) {nx : ANext} {s' : St}
    (ho : op_copy esz d x T s = some (nx, s')) : ∃ v r w', nx = .val v ∧ Post C σ s w σ s' w' ∧ VRel σ v r ∧ (Builtin.copy_ (t :: ts).toArray ty #[vd, vx]).run P w = .ok r w' := by
  unfold op_copy at ho
  simp only at ho
  split at ho
  · rename_i n m hn hm
    split at ho
    · rename_i new hnew
      obtain ⟨arr, ha1, ha2⟩ := firstA_ok (P := P) h hx hnew
      have hln := lenA_ok (P := P) hx hn
      have hnl := firstA_len hnew
      have e0 : ((t :: ts).toArray)[0]? = some t := by simp
      have hrun : ∀ o (cp : Nat), vd = .slice o m cp → (Builtin.copy_ (t :: ts).toArray ty #[vd, vx]).run P w = ((match o with
          | some a => storeCells a arr.toList
          | none => pure ()).run P w).andThen fun _ w' => .ok (goInt (minN n m)) w' := fun o cp ho => by
        subst ho
        rw [minN_eq] at ha1 ⊢
        have hmin : Nat.min n m = min n m := rfl
        cases o <;> simp [Builtin.copy_, K.run_under ht, hln, K.run_size hs, hmin, ha1]
      split at ho <;> first | (cases ho; done) | skip
      · rename_i hex
        rw [hex] at hd hm
        cases hd
        simp [lenA] at hm; subst hm
        obtain ⟨rfl, rfl⟩ := val_inj ho
        exact ⟨_, _, w, rfl, .refl h, .int _ _, by rw [hrun none 0 rfl]; rfl⟩
      · rename_i id off len cap hex
        rw [hex] at hd hm
        simp [lenA] at hm; subst hm
        split at ho <;> first | (cases ho; done) | skip
        rename_i c el fz hcs
        split at ho <;> first | (cases ho; done) | skip
        rename_i c' hov
        obtain ⟨rfl, rfl⟩ := val_inj ho
        cases hd with
        | sl _ _ _ _ p hp hl =>
          obtain ⟨w', h1, h2⟩ := over_post (P := P) h hcs hp hov ha2
          refine ⟨_, _, w', rfl, h1, .int _ _, ?_⟩
          rw [hrun _ _ rfl, h2]; rfl
      · rename_i id off len e' hex
        rw [hex] at hd hm
        simp [lenA] at hm; subst hm
        cases hd with
        | slo _ _ _ _ xo cap p hp he' hxo hl ho' hdv =>
          split at ho
          · rename_i c0 hmin
            obtain ⟨rfl, rfl⟩ := val_inj ho
            have hz : minN n len = 0 := hmin
            rw [hz, Nat.zero_mul] at hnl
            have hae : arr.toList = [] := by
              have := ha2.length; rw [hnl] at this
              exact List.eq_nil_of_length_eq_zero this.symm
            refine ⟨_, _, w, rfl, .refl h, .int _ _, ?_⟩
            rw [hrun _ _ rfl, hae, hz]; rfl
          · rename_i hcs hmin
            split at ho <;> first | (cases ho; done) | skip
            rename_i c' hov
            obtain ⟨rfl, rfl⟩ := val_inj ho
            have hpos : 0 < len := by
              rcases Nat.eq_zero_or_pos len with h0 | h0
              · subst h0
                exact absurd (by rw [minN_eq]; simp) hmin
              · exact h0
            rw [ho' hpos] at hrun ⊢
            obtain ⟨w', h1, h2⟩ := over_post (P := P) h hcs hp hov ha2
            refine ⟨_, _, w', rfl, h1, .int _ _, ?_⟩
            rw [hrun _ _ rfl, h2]; rfl
          · cases ho
    · cases ho
  · cases ho


/-! ### append -/
theorem op_append_ok (K : CtxOk C P) (h : HRel C σ s.get w) {t u e esz bt ty : Nat} {du : TypeDesc} {z : AV} (ht : C.I.under t = some (.slice e)) (hu : C.I.under u = some du) (hd : ∀ k, du ≠ .int k) (hs : C.I.size e = some esz) (hb : C.I.bytes e = some bt)
    (hz : C.I.zero e = some z) (hzl : z.cells.length = esz) {x y : AX} {c d : Value} (hx : VRel σ (ev T x) c) (hy : VRel σ (ev T y) d) {nx : ANext} {s' : St} (hn : ∀ id, s.next ≤ id → id < s'.next → σ id = none)
    (ho : op_append e esz bt x y T s = some (nx, s')) : ∃ v r σ' w', nx = .val v ∧ Post C σ s w σ' s' w' ∧ VRel σ' v r ∧ (Builtin.append_ #[t, u] ty #[c, d]).run P w = .ok r w' := by
  unfold op_append at ho
  simp only at ho
  split at ho <;> first | (cases ho; done) | skip
  rename_i n hln
  split at ho <;> first | (cases ho; done) | skip
  rename_i new hnew
  split at ho <;> first | (cases ho; done) | skip
  rename_i v s1 happ
  obtain ⟨rfl, rfl⟩ := val_inj ho
  obtain ⟨σ', w', r, h1, h2, h3⟩ := appendA_ok K h ht hu hd hs hb hz hzl ty hx hy hln hnew happ hn
  exact ⟨v, r, σ', w', rfl, h1, h2, h3⟩

theorem op_appendZ_ok (K : CtxOk C P) (h : HRel C σ s.get w) {t u e esz bt ty : Nat} {ku : IntKind} {z : AV} (ht : C.I.under t = some (.slice e)) (hu : C.I.under u = some (.int ku)) (hs : C.I.size e = some esz) (hb : C.I.bytes e = some bt)
    (hz : C.I.zero e = some z) {x y : AX} {c d : Value} (hx : VRel σ (ev T x) c) (hy : VRel σ (ev T y) d) {nx : ANext} {s' : St} (hn : ∀ id, s.next ≤ id → id < s'.next → σ id = none)
    (ho : op_appendZ e esz bt z.cells x y T s = some (nx, s')) : ∃ v r σ' w', nx = .val v ∧ Post C σ s w σ' s' w' ∧ VRel σ' v r ∧ (Builtin.append_ #[t, u] ty #[c, d]).run P w = .ok r w' := by
  unfold op_appendZ at ho
  split at ho <;> first | (cases ho; done) | skip
  rename_i n hln hzl
  split at ho <;> first | (cases ho; done) | skip
  rename_i v s1 hble happ
  obtain ⟨rfl, rfl⟩ := val_inj ho
  rw [beq_iff, llen_eq] at hzl
  rw [ble_iff] at hble
  have hsm : n * 4096 ≤ 1099511627776 := of_decide_eq_true hble
  obtain ⟨kd, rfl⟩ := natOf_rel hy hln
  obtain ⟨σ', w', r, h1, h2, h3⟩ := appendZ_ok K h (kd := kd) ht hu hs hb hz (of_decide_eq_true hzl) ty hx hsm happ hn
  exact ⟨v, r, σ', w', rfl, h1, h2, h3⟩

/-! ### len, cap -/
theorem op_lenS_ok (K : CtxOk C P) {t e ty : Nat} (ht : C.I.under t = some (.slice e)) {x : AX} {c : Value} (hx : VRel σ (ev T x) c) {nx : ANext} {s' : St} (ho : op_lenS x T s = some (nx, s')) :
    ∃ v r, nx = .val v ∧ s' = s ∧ VRel σ v r ∧ (Builtin.len_ #[t] ty #[c]).run P w = .ok r w := by
  unfold op_lenS at ho
  split at ho <;> first | (cases ho; done) | skip
  all_goals (rename_i hex; rw [hex] at hx; obtain ⟨rfl, rfl⟩ := val_inj ho; cases hx)
  all_goals exact ⟨_, _, rfl, rfl, .int _ _, by simp [Builtin.len_, K.run_under ht]; rfl⟩
theorem op_capS_ok (K : CtxOk C P) {t e ty : Nat} (ht : C.I.under t = some (.slice e)) {x : AX} {c : Value} (hx : VRel σ (ev T x) c) {nx : ANext} {s' : St} (ho : op_capS x T s = some (nx, s')) :
    ∃ v r, nx = .val v ∧ s' = s ∧ VRel σ v r ∧ (Builtin.cap_ #[t] ty #[c]).run P w = .ok r w := by
  unfold op_capS at ho
  split at ho <;> first | (cases ho; done) | skip
  all_goals (rename_i hex; rw [hex] at hx; obtain ⟨rfl, rfl⟩ := val_inj ho; cases hx)
  all_goals exact ⟨_, _, rfl, rfl, .int _ _, by simp [Builtin.cap_, K.run_under ht]; rfl⟩
theorem op_lenStr_ok (K : CtxOk C P) {t ty : Nat} (ht : C.I.under t = some .string) {x : AX} {c : Value} (hx : VRel σ (ev T x) c) {nx : ANext} {s' : St} (ho : op_lenStr x T s = some (nx, s')) :
    ∃ v r, nx = .val v ∧ s' = s ∧ VRel σ v r ∧ (Builtin.len_ #[t] ty #[c]).run P w = .ok r w := by
  unfold op_lenStr at ho
  split at ho <;> first | (cases ho; done) | skip
  rename_i b hex
  rw [hex] at hx
  obtain ⟨rfl, rfl⟩ := val_inj ho
  obtain ⟨bs, rfl, hb⟩ := hx.str_inv
  refine ⟨_, goInt bs.size, rfl, rfl, ?_, by simp [Builtin.len_, K.run_under ht]⟩
  rw [nlen_eq, ← str_size hb]; exact .int _ _

/-! ### clear -/
theorem run_clear_none (K : CtxOk C P) {t ty : Nat} {du : TypeDesc} (ht : C.I.under t = some du) {c : Value} (hc : c = .map none ∨ (∃ a b, c = .slice none a b) ∨ (∃ a b, c = .slice a 0 b)) : (Builtin.clear_ #[t] ty #[c]).run P w = .ok (.tuple #[]) w := by
  rcases hc with rfl | ⟨a, b, rfl⟩ | ⟨a, b, rfl⟩
  · simp [Builtin.clear_, K.run_under ht]
  · simp [Builtin.clear_, K.run_under ht]
  · cases a <;> simp [Builtin.clear_, K.run_under ht]
theorem op_clearS_ok (K : CtxOk C P) (h : HRel C σ s.get w) {t e esz ty : Nat} {z : AV} (ht : C.I.under t = some (.slice e)) (hs : C.I.size e = some esz) (hz : C.I.zero e = some z) {x : AX} {c : Value} (hx : VRel σ (ev T x) c) {nx : ANext} {s' : St}
    (ho : op_clearS esz z.cells x T s = some (nx, s')) : ∃ v r w', nx = .val v ∧ Post C σ s w σ s' w' ∧ VRel σ v r ∧ (Builtin.clear_ #[t] ty #[c]).run P w = .ok r w' := by
  obtain ⟨zv, hzv, hzr⟩ := K.run_zero hz
  have hr : ∀ n, VRels σ (rep n z.cells) (Builtin.zeroCells zv.cells n).toList := fun n => by
    rw [zeroCells_list]; exact VRels.flatten_rep (cV_rel σ zv z hzv).cells n
  have hrun : ∀ a n cp, n ≠ 0 → (Builtin.clear_ #[t] ty #[.slice (some a) n cp]).run P w = ((storeCells a (Builtin.zeroCells zv.cells n).toList).run P w).andThen fun _ w' => .ok (.tuple #[]) w' := fun a n cp h0 => by
    obtain ⟨m, rfl⟩ : ∃ m, n = m + 1 := ⟨n - 1, by omega⟩
    simp [Builtin.clear_, K.run_under ht, hzr]
  unfold op_clearS at ho
  split at ho <;> first | (cases ho; done) | skip
  · rename_i hex
    rw [hex] at hx
    obtain ⟨rfl, rfl⟩ := val_inj ho
    cases hx
    exact ⟨_, _, w, rfl, .refl h, .tup _ _ .nil, run_clear_none K ht (.inr (.inl ⟨_, _, rfl⟩))⟩
  · rename_i id off n cp hzl hex
    rw [hex] at hx
    cases hx with
    | sl _ _ _ _ p hp hl =>
      split at ho <;> first | (cases ho; done) | skip
      · obtain ⟨rfl, rfl⟩ := val_inj ho
        exact ⟨_, _, w, rfl, .refl h, .tup _ _ .nil, run_clear_none K ht (.inr (.inr ⟨_, _, rfl⟩))⟩
      · rename_i hn0 hcs
        split at ho <;> first | (cases ho; done) | skip
        rename_i c' hov
        obtain ⟨rfl, rfl⟩ := val_inj ho
        obtain ⟨w', h1, h2⟩ := over_post (P := P) h hcs hp hov (hr _)
        exact ⟨_, _, w', rfl, h1, .tup _ _ .nil, by rw [hrun _ _ _ (fun e => hn0 e), h2]; rfl⟩
  · rename_i id off n e' hzl hex
    rw [hex] at hx
    cases hx with
    | slo _ _ _ _ xo cap p hp he' hxo hl ho' hdv =>
      split at ho <;> first | (cases ho; done) | skip
      · obtain ⟨rfl, rfl⟩ := val_inj ho
        exact ⟨_, _, w, rfl, .refl h, .tup _ _ .nil, run_clear_none K ht (.inr (.inr ⟨_, _, rfl⟩))⟩
      · rename_i hn0 hcs
        split at ho <;> first | (cases ho; done) | skip
        rename_i c' hov
        obtain ⟨rfl, rfl⟩ := val_inj ho
        rw [ho' (Nat.pos_of_ne_zero (fun e => hn0 e))]
        obtain ⟨w', h1, h2⟩ := over_post (P := P) h hcs hp hov (hr _)
        exact ⟨_, _, w', rfl, h1, .tup _ _ .nil, by rw [hrun _ _ _ (fun e => hn0 e), h2]; rfl⟩

/-! ### min, max, functions -/
theorem op_min2_ok {ts : Array Nat} {ty : Nat} {x y : AX} {c d : Value} (hx : VRel σ (ev T x) c) (hy : VRel σ (ev T y) d) {nx : ANext} {s' : St} (ho : op_min2 x y T s = some (nx, s')) :
    ∃ v r, nx = .val v ∧ s' = s ∧ VRel σ v r ∧ (Builtin.min_ ts ty #[c, d]).run P w = .ok r w := by
  unfold op_min2 at ho
  split at ho <;> first | (cases ho; done) | skip
  rename_i k a k' b h1 h2
  rw [h1] at hx; rw [h2] at hy
  cases hx; cases hy
  obtain ⟨rfl, rfl⟩ := val_inj ho
  refine ⟨_, .int k (if b < a then b else a), rfl, rfl, ?_, by simp [Builtin.min_, Builtin.min2]⟩
  rw [intLt_eq]
  by_cases hb : b < a <;> simp [hb] <;> exact .int _ _
theorem op_max2_ok {ts : Array Nat} {ty : Nat} {x y : AX} {c d : Value} (hx : VRel σ (ev T x) c) (hy : VRel σ (ev T y) d) {nx : ANext} {s' : St} (ho : op_max2 x y T s = some (nx, s')) :
    ∃ v r, nx = .val v ∧ s' = s ∧ VRel σ v r ∧ (Builtin.max_ ts ty #[c, d]).run P w = .ok r w := by
  unfold op_max2 at ho
  split at ho <;> first | (cases ho; done) | skip
  rename_i k a k' b h1 h2
  rw [h1] at hx; rw [h2] at hy
  cases hx; cases hy
  obtain ⟨rfl, rfl⟩ := val_inj ho
  refine ⟨_, .int k (if b > a then b else a), rfl, rfl, ?_, by simp [Builtin.max_, Builtin.max2]⟩
  rw [intLt_eq]
  by_cases hb : a < b <;> simp [hb] <;> exact .int _ _

theorem op_sdata_ok {ts : Array Nat} {ty : Nat} {x : AX} {c : Value} (hx : VRel σ (ev T x) c) {nx : ANext} {s' : St} (ho : op_sdata x T s = some (nx, s')) :
    ∃ v r, nx = .val v ∧ s' = s ∧ VRel σ v r ∧ (Builtin.unsafeSliceData_ ts ty #[c]).run P w = .ok r w := by
  unfold op_sdata at ho
  split at ho <;> first | (cases ho; done) | skip
  · rename_i hex
    rw [hex] at hx
    cases hx
    obtain ⟨rfl, rfl⟩ := val_inj ho
    exact ⟨_, _, rfl, rfl, .nilptr, rfl⟩
  · rename_i id off n cp hex
    rw [hex] at hx
    obtain ⟨rfl, rfl⟩ := val_inj ho
    cases hx with
    | sl _ _ _ _ p hp hl => exact ⟨_, _, rfl, rfl, .ptr id off p hp, Lib.run_unsafeSliceData_row w ts ty _ _ _ (by simp)⟩
  · rename_i id off n e hex
    rw [hex] at hx
    obtain ⟨rfl, rfl⟩ := val_inj ho
    cases hx with
    | slo _ _ _ _ xo cap p hp he' hxo hl ho' hdv =>
      rw [ho' (Nat.succ_pos _)]
      exact ⟨_, _, rfl, rfl, .ptr id off p hp, Lib.run_unsafeSliceData_row w ts ty _ _ _ (by omega)⟩

theorem evs_rel {x : List AX} {c : List Value} (h : VRels σ (evs T x) c) : VRels σ (evs T x) c := h

theorem op_nilck_ok {x : AX} {c : Value} (hx : VRel σ (ev T x) c) {nx : ANext} {s' : St} (ho : op_nilck x T s = some (nx, s')) :
    ∃ v, nx = .val v ∧ s' = s ∧ VRel σ v c ∧ ((∃ ad, c = .pointer (some ad)) ∨ (∃ f a b, c = .func (.func f) a b) ∨ ∃ l a b, c = .func (.yield l) a b) := by
  unfold op_nilck at ho
  split at ho <;> first | (cases ho; done) | skip
  · rename_i id off hex
    rw [hex] at hx
    obtain ⟨rfl, rfl⟩ := val_inj ho
    refine ⟨_, rfl, rfl, hx, .inl ?_⟩
    cases hx; exact ⟨_, rfl⟩
  · rename_i fn a b hex
    rw [hex] at hx
    obtain ⟨rfl, rfl⟩ := val_inj ho
    refine ⟨_, rfl, rfl, hx, .inr ?_⟩
    cases hx
    · exact .inl ⟨_, _, _, rfl⟩
    · exact .inr ⟨_, _, _, rfl⟩

/-! ### maps: a new one -/
theorem op_mkmap_ok (h : HRel C σ s.get w) {t : Nat} {nx : ANext} {s' : St} (hn : ∀ id, s.next ≤ id → id < s'.next → σ id = none) (ho : op_mkmap T s = some (nx, s')) :
    ∃ v r σ' w', nx = .val v ∧ Post C σ s w σ' s' w' ∧ VRel σ' v r ∧ (Instr.makeMap t none).run P w = .ok r w' := by
  unfold op_mkmap at ho
  split at ho <;> first | (cases ho; done) | skip
  obtain ⟨rfl, rfl⟩ := val_inj ho
  have hn0 : σ s.next = none := hn _ (Nat.le_refl _) (Nat.lt_succ_self _)
  refine ⟨_, .map (some w.heap.size), σ.ins s.next ⟨w.heap.size, 0, 0⟩, w.alloc (.map #[] 0), rfl, post_new h hn0 _ _ 0 0 ?_, .map s.next _ (Sig.ins_self _ _ _), by simp [Instr.makeMap, run_newA]⟩
  exact ⟨#[], 0, rfl, ⟨⟨[], List.Perm.refl _, .nil⟩⟩, fun e he => by simp at he⟩

end Go.Qa
end

/- Maps: an abstract map says which entries there are, and nothing of their order. -/
section
namespace Go.Qa
variable {P : Program} {C : Ctx} {σ : Sig} {T : Tmps} {a : Act} {s : St} {w : World}

/-! ### keys -/
inductive PlainD (I : Ti) (t : Nat) : EqT → Prop
  | bool : I.under t = some .bool → PlainD I t .bool
  | int (k : IntKind) : I.under t = some (.int k) → PlainD I t .int
  | str : I.under t = some .string → PlainD I t .str

theorem cEq_bool {I : Ti} {st : Nat → Bool} {f t : Nat} {q : EqT} (h : cEq I st f t = some q) : match q with
    | .bool | .int | .str => PlainD I t q
    | .struct l => ∃ g fs, f = g + 1 ∧ I.under t = some (.struct ⟨fs⟩) ∧ cEqFs I st g fs = some l
    | _ => True := by
  cases f with
  | zero => simp [cEq] at h
  | succ g =>
    unfold cEq at h
    split at h
    · injection h with h; subst h; exact .bool (by assumption)
    · injection h with h; subst h; exact .int _ (by assumption)
    · injection h with h; subst h; exact .str (by assumption)
    · split at h
      · injection h with h; subst h; trivial
      · cases h
    · injection h with h; subst h; trivial
    · injection h with h; subst h; trivial
    · injection h with h; subst h; trivial
    · split at h
      · cases h
      · split at h
        · rename_i l hl; injection h with h; subst h; exact ⟨g, _, rfl, by assumption, hl⟩
        · cases h
    · split at h
      · injection h with h; subst h; trivial
      · cases h
    · cases h

theorem checkKey_basic (K : CtxOk C P) {t : Nat} {q : EqT} (h : PlainD C.I t q) (e : Bool) (n : Nat) (v : Value) (w : World) : (Instr.checkKey e (n + 1) t v).run P w = .ok () w := by
  cases h with
  | bool h => cases v <;> simp [Instr.checkKey, K.run_under h]
  | int k h => cases v <;> simp [Instr.checkKey, K.run_under h]
  | str h => cases v <;> simp [Instr.checkKey, K.run_under h]

theorem checkFs (K : CtxOk C P) {st : Nat → Bool} (e : Bool) (n : Nat) {ka : List AV} {kc : Array Value} (hk : VRels σ ka kc.toList) (w : World) : ∀ (g : Nat) (fs : List Field) (l : List (Nat × Option Nat × EqT)), cEqFs C.I st g fs = some l → plainK.plainFs l = true → okKey.okFs l ka = true →
    (forIn (m := Sem) fs PUnit.unit (fun f (_ : PUnit) => do
      if f.name ≠ "_" then Instr.checkKey e (n + 1) f.type (← part f.type kc f.offset)
      pure (ForInStep.yield PUnit.unit))).run P w = .ok PUnit.unit w := by
  intro g
  induction g with
  | zero => intro fs l h; cases fs <;> simp [cEqFs] at h
  | succ g ih =>
    intro fs l h hp ho
    cases fs with
    | nil => simp
    | cons f fs =>
      unfold cEqFs at h
      split at h
      · rename_i ag q l' hname hag hq hl
        injection h with h
        subst h
        have hname : f.name ≠ "_" := by simpa using hname
        have hag0 : ag = none := by
          cases ag with
          | none => rfl
          | some k => cases q <;> simp [plainK.plainFs] at hp
        subst hag0
        have hpl : plainK.plainFs l' = true := by cases q <;> first | (simpa [plainK.plainFs] using hp) | (simp [plainK.plainFs] at hp)
        have hbas : PlainD C.I f.type q := by
          have := cEq_bool hq
          cases q <;> first | exact this | (simp [plainK.plainFs] at hp; done)
        simp only [okKey.okFs, lget_eq] at ho
        split at ho
        · rename_i v hv
          obtain ⟨x, hx, hr⟩ := hk.get hv
          obtain ⟨y, hy, _⟩ := part_ok K hag hk (off := f.offset) (v := v) (by simp [part?, lget_eq, hv])
          have h1 := ih fs l' hl hpl ho
          simp [hname, hy, checkKey_basic K hbas, h1]
          simpa using h1
        · cases ho
      · cases h

theorem checkKey_ok (K : CtxOk C P) {t : Nat} {q : EqT} (hq : cEq C.I C.stood 40 t = some q) {ka : AV} {kc : Value} (hk : VRel σ ka kc) (hp : plainK q = true) (ho : okKey q ka = true) (e : Bool) (w : World) : (Instr.checkKey e 10000 t kc).run P w = .ok () w := by
  have hc := cEq_bool hq
  cases q <;> first | (simp [plainK] at hp; done) | skip
  · exact checkKey_basic K hc e 9999 kc w
  · exact checkKey_basic K hc e 9999 kc w
  · exact checkKey_basic K hc e 9999 kc w
  · rename_i l
    obtain ⟨g, fs, hg, hu, hf⟩ := hc
    cases ka <;> first | (simp [okKey] at ho; done) | skip
    rename_i ka
    cases hk with
    | agg _ kc hkc =>
      have := checkFs K e 9998 hkc w g fs l hf hp ho
      show (Instr.checkKey e (9999 + 1) t (.agg kc)).run P w = .ok () w
      unfold Instr.checkKey
      simp only [Sem.run_bind, K.run_under hu, Result.andThen_ok]
      simp [List.forIn_toArray]
      simp at this
      rw [this]; rfl

/-! ### finding -/
theorem MR.length {es : List (AV × AV)} {l : List MapEntry} (h : MR σ es l) : es.length = l.length := by
  induction h with
  | nil => rfl
  | cons _ _ _ _ _ _ _ _ ih => simp [ih]
theorem MR.append {es es' : List (AV × AV)} {l l' : List MapEntry} (h : MR σ es l) (h' : MR σ es' l') : MR σ (es ++ es') (l ++ l') := by
  induction h with
  | nil => exact h'
  | cons _ _ _ _ _ a b _ ih => exact .cons _ _ _ _ _ a b ih

def isEq (P : Program) (w : World) (kt : Nat) (kc : Value) (e : MapEntry) (b : Bool) : Prop := (Op.equal kt kc e.key).run P w = .ok b w
theorem isEq.uniq {kt : Nat} {kc : Value} {e : MapEntry} {a b : Bool} (h : isEq P w kt kc e a) (h' : isEq P w kt kc e b) : a = b := by
  unfold isEq at h h'
  rw [h] at h'
  injection h'

theorem noneEq_ok (K : CtxOk C P) (h : HRel C σ s.get w) {t : Nat} {q : EqT} (hq : cEq C.I C.stood 40 t = some q) {ka : AV} {kc : Value} (hk : VRel σ ka kc) {es : List (AV × AV)} {l : List MapEntry} (hm : MR σ es l) (hn : noneEq s q ka es = true) :
    ∀ e ∈ l, isEq P w t kc e false := by
  induction hm with
  | nil => intro e he; cases he
  | cons k v e0 es l a b hm ih =>
    simp only [noneEq] at hn
    split at hn
    · rename_i he
      intro e hmem
      rcases List.mem_cons.1 hmem with r | r
      · subst r; exact eqA_ok K h hq he hk a
      · exact ih hn e r
    · cases hn

theorem findA_ok (K : CtxOk C P) (h : HRel C σ s.get w) {t : Nat} {q : EqT} (hq : cEq C.I C.stood 40 t = some q) {ka : AV} {kc : Value} (hk : VRel σ ka kc) {es : List (AV × AV)} {l : List MapEntry} (hm : MR σ es l) :
    ∀ {i0 : Nat} {r : Option (Nat × AV)}, findA s q ka es i0 = some r →
      (r = none ∧ ∀ e ∈ l, isEq P w t kc e false) ∨
      ∃ E1 k v E2 L1 e L2, r = some (i0 + E1.length, v) ∧ es = E1 ++ (k, v) :: E2 ∧ l = L1 ++ e :: L2 ∧ MR σ E1 L1 ∧ MR σ E2 L2 ∧ VRel σ k e.key ∧ VRel σ v e.val ∧ isEq P w t kc e true ∧ (∀ e' ∈ L1 ++ L2, isEq P w t kc e' false) := by
  induction hm with
  | nil => intro i0 r hr; simp [findA] at hr; subst hr; exact .inl ⟨rfl, fun e he => by cases he⟩
  | cons k v e0 es l a b hm ih =>
    intro i0 r hr
    simp only [findA] at hr
    split at hr
    · rename_i he
      split at hr
      · rename_i hn
        injection hr with hr; subst hr
        exact .inr ⟨[], k, v, es, [], e0, l, rfl, rfl, rfl, .nil, hm, a, b, eqA_ok K h hq he hk a, noneEq_ok K h hq hk hm hn⟩
      · cases hr
    · rename_i he
      have he0 : isEq P w t kc e0 false := eqA_ok K h hq he hk a
      rcases ih hr with ⟨h1, h2⟩ | ⟨E1, k', v', E2, L1, e, L2, h1, h2, h3, h4, h5, h6, h7, h8, h9⟩
      · refine .inl ⟨h1, fun e hmem => ?_⟩
        rcases List.mem_cons.1 hmem with r | r
        · subst r; exact he0
        · exact h2 e r
      · refine .inr ⟨(k, v) :: E1, k', v', E2, e0 :: L1, e, L2, ?_, by rw [h2]; rfl, by rw [h3]; rfl, .cons _ _ _ _ _ a b h4, h5, h6, h7, h8, fun e' hmem => ?_⟩
        · rw [h1]; simp; omega
        · rcases List.mem_cons.1 hmem with r | r
          · subst r; exact he0
          · exact h9 e' r
    · cases hr

theorem equal_int (K : CtxOk C P) {t : Nat} {k0 : IntKind} (hu : C.I.under t = some (.int k0)) (k : IntKind) (a b : Int) : (Op.equal t (.int k a) (.int k b)).run P w = .ok (a == b) w := by
  show (Op.equalIn (9999 + 1) t _ _).run P w = _
  unfold Op.equalIn
  simp [K.run_under hu]
theorem equal_str (K : CtxOk C P) {t : Nat} (hu : C.I.under t = some .string) (a b : ByteArray) : (Op.equal t (.string a) (.string b)).run P w = .ok (a == b) w := by
  show (Op.equalIn (9999 + 1) t _ _).run P w = _
  unfold Op.equalIn
  simp [K.run_under hu]
theorem equal_bool (K : CtxOk C P) {t : Nat} (hu : C.I.under t = some .bool) (a b : Bool) : (Op.equal t (.bool a) (.bool b)).run P w = .ok (a == b) w := by
  show (Op.equalIn (9999 + 1) t _ _).run P w = _
  unfold Op.equalIn
  simp [K.run_under hu]

theorem sameNow_ok (K : CtxOk C P) {t : Nat} {d : TypeDesc} (hu : C.I.under t = some d) {c e : Value} {b : Bool} (h : Instr.sameNow d c e = some b) : (Op.equal t c e).run P w = .ok b w := by
  unfold Instr.sameNow at h
  split at h
  · split at h
    · rename_i hk; subst hk; injection h with h; subst h
      exact equal_int K hu _ _ _
    · cases h
  · injection h with h; subst h
    exact equal_str K hu _ _
  · injection h with h; subst h
    exact equal_bool K hu _ _
  · cases h

theorem findNow_none (K : CtxOk C P) {t : Nat} {d : TypeDesc} (hu : C.I.under t = some d) {kc : Value} : ∀ (l : List MapEntry) (i : Nat) (r : Option (Nat × Value)), (∀ e ∈ l, isEq P w t kc e false) → Instr.findNow d kc l i = some r → r = none
  | [], i, r, _, h => by simp [Instr.findNow] at h; exact h.symm
  | e :: l, i, r, H, h => by
    simp only [Instr.findNow] at h
    split at h
    · rename_i hs
      have := isEq.uniq (sameNow_ok (P := P) (w := w) K hu hs) (H e List.mem_cons_self)
      cases this
    · exact findNow_none K hu l _ r (fun e he => H e (List.mem_cons_of_mem _ he)) h
    · cases h
theorem findAsking_none {t : Nat} {kc : Value} : ∀ (l : List MapEntry) (i : Nat), (∀ e ∈ l, isEq P w t kc e false) → (Instr.findAsking t kc l i).run P w = .ok none w
  | [], i, _ => rfl
  | e :: l, i, H => by
    have h1 : (Op.equal t kc e.key).run P w = .ok false w := H e List.mem_cons_self
    have h2 := findAsking_none l (i + 1) (fun e he => H e (List.mem_cons_of_mem _ he))
    simp [Instr.findAsking, h1, h2]
theorem findKey_none (K : CtxOk C P) {t : Nat} {d : TypeDesc} (hu : C.I.under t = some d) {kc : Value} {l : List MapEntry} (H : ∀ e ∈ l, isEq P w t kc e false) : (Instr.findKey t kc l).run P w = .ok none w := by
  unfold Instr.findKey
  simp only [Sem.run_bind, K.run_under hu, Result.andThen_ok]
  split
  · rename_i r hr
    have := findNow_none (w := w) K hu l 0 r H hr
    subst this; rfl
  · exact findAsking_none l 0 H

theorem findNow_some (K : CtxOk C P) {t : Nat} {d : TypeDesc} (hu : C.I.under t = some d) {kc : Value} {e : MapEntry} {B : List MapEntry} (he : isEq P w t kc e true) : ∀ (A : List MapEntry) (i : Nat) (r : Option (Nat × Value)), (∀ e ∈ A, isEq P w t kc e false) →
    Instr.findNow d kc (A ++ e :: B) i = some r → r = some (i + A.length, e.val)
  | [], i, r, _, h => by
    simp only [List.nil_append, Instr.findNow] at h
    split at h
    · injection h with h; exact h.symm
    · rename_i hs
      have := isEq.uniq (sameNow_ok (P := P) (w := w) K hu hs) he
      cases this
    · cases h
  | a :: A, i, r, H, h => by
    simp only [List.cons_append, Instr.findNow] at h
    split at h
    · rename_i hs
      have := isEq.uniq (sameNow_ok (P := P) (w := w) K hu hs) (H a List.mem_cons_self)
      cases this
    · have := findNow_some K hu he A _ r (fun e he => H e (List.mem_cons_of_mem _ he)) h
      rw [this]; simp; omega
    · cases h
theorem findAsking_some {t : Nat} {kc : Value} {e : MapEntry} {B : List MapEntry} (he : isEq P w t kc e true) : ∀ (A : List MapEntry) (i : Nat), (∀ e ∈ A, isEq P w t kc e false) → (Instr.findAsking t kc (A ++ e :: B) i).run P w = .ok (some (i + A.length, e.val)) w
  | [], i, _ => by
    have h1 : (Op.equal t kc e.key).run P w = .ok true w := he
    simp [Instr.findAsking, h1]
  | a :: A, i, H => by
    have h1 : (Op.equal t kc a.key).run P w = .ok false w := H a List.mem_cons_self
    have h2 := findAsking_some (B := B) he A (i + 1) (fun e he => H e (List.mem_cons_of_mem _ he))
    simp [Instr.findAsking, h1, h2]
    omega
theorem findKey_some (K : CtxOk C P) {t : Nat} {d : TypeDesc} (hu : C.I.under t = some d) {kc : Value} {A B : List MapEntry} {e : MapEntry} (he : isEq P w t kc e true) (H : ∀ e ∈ A, isEq P w t kc e false) :
    (Instr.findKey t kc (A ++ e :: B)).run P w = .ok (some (A.length, e.val)) w := by
  unfold Instr.findKey
  simp only [Sem.run_bind, K.run_under hu, Result.andThen_ok]
  split
  · rename_i r hr
    have := findNow_some (w := w) K hu he A 0 r H hr
    rw [this]; simp
  · have := findAsking_some (B := B) he A 0 H
    rw [this]; simp

/-- in whatever order: the one entry of that key, and the others -/
theorem perm_split {t : Nat} {kc : Value} {L1 L2 c : List MapEntry} {e : MapEntry} (hp : (L1 ++ e :: L2).Perm c) (he : isEq P w t kc e true) (H : ∀ e' ∈ L1 ++ L2, isEq P w t kc e' false) :
    ∃ A B, c = A ++ e :: B ∧ (L1 ++ L2).Perm (A ++ B) ∧ ∀ e' ∈ A, isEq P w t kc e' false := by
  have hmem : e ∈ c := hp.mem_iff.1 (by simp)
  obtain ⟨A, B, rfl⟩ := List.append_of_mem hmem
  have h1 : (e :: (L1 ++ L2)).Perm (e :: (A ++ B)) := List.perm_middle.symm.trans (hp.trans List.perm_middle)
  have h2 := h1.cons_inv
  exact ⟨A, B, rfl, h2, fun e' he' => H e' (h2.mem_iff.2 (List.mem_append_left _ he'))⟩

end Go.Qa
end

/- Maps: the operations. -/
section
namespace Go.Qa
variable {P : Program} {C : Ctx} {σ : Sig} {T : Tmps} {a : Act} {s : St} {w : World}

theorem run_getM {r : Nat} {es : Array MapEntry} {clock : Nat} (hb : w.heap[r]? = some (.map es clock)) : (getObj r).run P w = .ok (.map es clock) w := by
  simp [getObj, Sem.run, hb]
theorem run_setM {r : Nat} {es : Array MapEntry} {clock : Nat} (o : Obj) (hb : w.heap[r]? = some (.map es clock)) : (setObj r o).run P w = .ok () (World.row w r o) := by
  simp [setObj, Sem.run, hb, World.row]

theorem map_live (h : HRel C σ s.get w) {v : AV} {id : Nat} {es : List (AV × AV)} (hm : mapOf s v = some (id, es)) {c : Value} (hv : VRel σ v c) :
    ∃ p ces ck, v = .map id ∧ c = .map (some p.block) ∧ σ id = some p ∧ s.get id = some (.map es) ∧ w.heap[p.block]? = some (.map ces ck) ∧ MRel σ es ces.toList ∧ ∀ e ∈ ces.toList, e.born < ck := by
  unfold mapOf at hm
  split at hm <;> first | (cases hm; done) | skip
  rename_i id'
  split at hm <;> first | (cases hm; done) | skip
  rename_i es' hg
  injection hm with hm
  injection hm with h1 h2
  subst h1; subst h2
  obtain ⟨p, hp, ces, ck, hw, hr, hbn⟩ := h.obj _ _ hg
  cases hv with
  | map _ q hq =>
    rw [hp] at hq; injection hq with hq; subst hq
    exact ⟨p, ces, ck, rfl, rfl, hp, hg, hw, hr, hbn⟩

theorem map_set_post (h : HRel C σ s.get w) {id : Nat} {es es' : List (AV × AV)} {p : Place} (hg : s.get id = some (.map es)) (hp : σ id = some p) {ces : Array MapEntry} {ck : Nat} (hw : w.heap[p.block]? = some (.map ces ck)) {ces' : Array MapEntry} (ck' : Nat) (hr : MRel σ es' ces'.toList) (hbn : ∀ e ∈ ces'.toList, e.born < ck') :
    Post C σ s w σ (s.set id (.map es')) (World.row w p.block (.map ces' ck')) := by
  have hg' : s.get id ≠ none := by rw [hg]; simp
  refine post_mod h hg' hp rfl rfl rfl rfl (fun j hj => by rw [St.get_set hg', if_neg hj]) (fun b hb => row_get_other hb) (by simp [World.row]) rfl rfl rfl ?_
  intro o hoo
  rw [St.get_set hg', if_pos rfl] at hoo
  injection hoo with hoo; subst hoo
  exact ⟨ces', ck', row_get_same hw, hr, hbn⟩

/-- what is found, concretely -/
theorem find_conc (K : CtxOk C P) (h : HRel C σ s.get w) {t : Nat} {q : EqT} {d : TypeDesc} (hu : C.I.under t = some d) (hq : cEq C.I C.stood 40 t = some q) {ka : AV} {kc : Value} (hk : VRel σ ka kc) {es : List (AV × AV)} {ces : List MapEntry} (hm : MRel σ es ces) {r : Option (Nat × AV)} (hr : findA s q ka es 0 = some r) :
    (r = none ∧ (Instr.findKey t kc ces).run P w = .ok none w) ∨
    ∃ E1 k v E2 L1 e L2 A B, r = some (E1.length, v) ∧ es = E1 ++ (k, v) :: E2 ∧ ces = A ++ e :: B ∧ MR σ E1 L1 ∧ MR σ E2 L2 ∧ VRel σ k e.key ∧ VRel σ v e.val ∧ (L1 ++ L2).Perm (A ++ B) ∧ (Instr.findKey t kc ces).run P w = .ok (some (A.length, e.val)) w := by
  obtain ⟨l, hperm, hmr⟩ := hm.perm
  rcases findA_ok K h hq hk hmr hr with ⟨h1, h2⟩ | ⟨E1, k, v, E2, L1, e, L2, h1, h2, h3, h4, h5, h6, h7, h8, h9⟩
  · exact .inl ⟨h1, findKey_none K hu (fun e he => h2 e (hperm.mem_iff.2 he))⟩
  · rw [h3] at hperm
    obtain ⟨A, B, hc, hp2, hA⟩ := perm_split hperm h8 h9
    refine .inr ⟨E1, k, v, E2, L1, e, L2, A, B, by rw [h1]; simp, h2, hc, h4, h5, h6, h7, hp2, ?_⟩
    rw [hc]; exact findKey_some K hu h8 hA

theorem under_of_cEq {I : Ti} {st : Nat → Bool} {f t : Nat} {q : EqT} (h : cEq I st f t = some q) : ∃ d, I.under t = some d := by
  cases f with
  | zero => simp [cEq] at h
  | succ g =>
    unfold cEq at h
    cases hu : I.under t with
    | none => rw [hu] at h; simp at h
    | some d => exact ⟨d, rfl⟩

/-! ### lookup -/
theorem give_ok {nx : ANext} {s' : St} {ok : Bool} {v : AV} {vc : Value} {b : Bool} (hv : VRel σ v vc) (hg : (match ok with
      | true => val (.tup [v, .bool b]) s
      | false => val v s) = some (nx, s')) : ∃ v', nx = .val v' ∧ s' = s ∧ VRel σ v' (if ok then .tuple #[vc, .bool b] else vc) := by
  cases ok with
  | true => obtain ⟨rfl, rfl⟩ := val_inj hg; exact ⟨_, rfl, rfl, .tup _ _ (.cons _ _ _ _ hv (.cons _ _ _ _ (.bool b) .nil))⟩
  | false => obtain ⟨rfl, rfl⟩ := val_inj hg; exact ⟨_, rfl, rfl, hv⟩
theorem op_lookup_ok (K : CtxOk C P) (h : HRel C σ s.get w) {t kt e : Nat} {q : EqT} {z : AV} (ht : C.I.under t = some (.map kt e)) (hq : cEq C.I C.stood 40 kt = some q) (hz : C.I.zero e = some z) {x i : AX} {c d : Value} (hx : VRel σ (ev T x) c) (hi : VRel σ (ev T i) d) (ok : Bool)
    {nx : ANext} {s' : St} (ho : op_lookup q z x i ok T s = some (nx, s')) : ∃ v r, nx = .val v ∧ s' = s ∧ VRel σ v r ∧ (Instr.lookup t c d ok).run P w = .ok r w := by
  obtain ⟨zv, hzv, hzr⟩ := K.run_zero hz
  have hzrel := cV_rel σ zv z hzv
  have give := fun v vc b hv hg => @give_ok σ s nx s' ok v vc b hv hg
  unfold op_lookup at ho
  simp only at ho
  split at ho <;> first | (cases ho; done) | skip
  rename_i hpo
  simp only [Bool.and_eq_true] at hpo
  have hck := fun b => checkKey_ok (P := P) K hq hi hpo.1 hpo.2 b w
  obtain ⟨du, hu⟩ := under_of_cEq hq
  split at ho
  · rename_i hex
    rw [hex] at hx
    cases hx
    obtain ⟨v', h1, h2, h3⟩ := give z zv false hzrel ho
    refine ⟨v', _, h1, h2, h3, ?_⟩
    have hf := findKey_none (P := P) (w := w) (kc := d) (l := []) K hu (fun e he => by cases he)
    simp [Instr.lookup, K.run_under ht, hck, hf, hzr]
  · split at ho <;> first | (cases ho; done) | skip
    rename_i id es hm
    obtain ⟨p, ces, ck, hv, rfl, hp, hg, hw, hr, hbn⟩ := map_live h hm hx
    split at ho <;> first | (cases ho; done) | skip
    · rename_i j v hfa
      rcases find_conc K h hu hq hi hr hfa with ⟨h1, _⟩ | ⟨E1, k, v', E2, L1, e0, L2, A, B, h1, h2, h3, h4, h5, h6, h7, h8, h9⟩
      · cases h1
      · injection h1 with h1; injection h1 with h1 h1'; subst h1'
        obtain ⟨v', g1, g2, g3⟩ := give v e0.val true h7 ho
        refine ⟨v', _, g1, g2, g3, ?_⟩
        simp [Instr.lookup, K.run_under ht, hck, run_getM hw, h9]
    · rename_i hfa
      rcases find_conc K h hu hq hi hr hfa with ⟨_, h9⟩ | ⟨E1, k, v', E2, L1, e0, L2, A, B, h1, _⟩
      · obtain ⟨v', g1, g2, g3⟩ := give z zv false hzrel ho
        refine ⟨v', _, g1, g2, g3, ?_⟩
        simp [Instr.lookup, K.run_under ht, hck, run_getM hw, h9, hzr]
      · cases h1

/-! ### the other ones -/
theorem lengthM_eq (l : List (AV × AV)) : lengthM l = l.length := by
  induction l with
  | nil => rfl
  | cons a l ih => simp [lengthM, ih]
theorem setM_at (v k : AV) (x : AV × AV) (E2 : List (AV × AV)) : ∀ E1 : List (AV × AV), setM v (E1 ++ x :: E2) E1.length k = E1 ++ (k, v) :: E2
  | [] => rfl
  | e :: E1 => by simp [setM, setM_at v k x E2 E1]
theorem eraseM_at (x : AV × AV) (E2 : List (AV × AV)) : ∀ E1 : List (AV × AV), eraseM (E1 ++ x :: E2) E1.length = E1 ++ E2
  | [] => rfl
  | e :: E1 => by simp [eraseM, eraseM_at x E2 E1]
theorem keyAt_at (k v : AV) (E2 : List (AV × AV)) : ∀ E1 : List (AV × AV), keyAt (E1 ++ (k, v) :: E2) E1.length = k
  | [] => rfl
  | (_, _) :: E1 => by simp [keyAt, keyAt_at k v E2 E1]
theorem MRel.length {es : List (AV × AV)} {ces : List MapEntry} (h : MRel σ es ces) : es.length = ces.length := by
  obtain ⟨l, a, b⟩ := h.perm
  rw [b.length, a.length_eq]

theorem op_lenM_ok (K : CtxOk C P) (h : HRel C σ s.get w) {t kt e ty : Nat} (ht : C.I.under t = some (.map kt e)) {x : AX} {c : Value} (hx : VRel σ (ev T x) c) {nx : ANext} {s' : St} (ho : op_lenM x T s = some (nx, s')) :
    ∃ v r, nx = .val v ∧ s' = s ∧ VRel σ v r ∧ (Builtin.len_ #[t] ty #[c]).run P w = .ok r w := by
  unfold op_lenM at ho
  split at ho
  · rename_i hex
    rw [hex] at hx
    cases hx
    obtain ⟨rfl, rfl⟩ := val_inj ho
    exact ⟨_, goInt 0, rfl, rfl, .int _ _, by simp [Builtin.len_, K.run_under ht]⟩
  · split at ho <;> first | (cases ho; done) | skip
    rename_i id es hm
    obtain ⟨p, ces, ck, hv, rfl, hp, hg, hw, hr, hbn⟩ := map_live h hm hx
    obtain ⟨rfl, rfl⟩ := val_inj ho
    refine ⟨_, goInt ces.size, rfl, rfl, ?_, by simp [Builtin.len_, K.run_under ht, run_getM hw]⟩
    rw [lengthM_eq, hr.length]
    simp
    exact .int _ _

theorem op_clearM_ok (K : CtxOk C P) (h : HRel C σ s.get w) {t kt e ty : Nat} (ht : C.I.under t = some (.map kt e)) {x : AX} {c : Value} (hx : VRel σ (ev T x) c) {nx : ANext} {s' : St} (ho : op_clearM x T s = some (nx, s')) :
    ∃ v r w', nx = .val v ∧ Post C σ s w σ s' w' ∧ VRel σ v r ∧ (Builtin.clear_ #[t] ty #[c]).run P w = .ok r w' := by
  unfold op_clearM at ho
  split at ho
  · rename_i hex
    rw [hex] at hx
    cases hx
    obtain ⟨rfl, rfl⟩ := val_inj ho
    exact ⟨_, _, w, rfl, .refl h, .tup _ _ .nil, run_clear_none K ht (.inl rfl)⟩
  · split at ho <;> first | (cases ho; done) | skip
    rename_i id es hm
    obtain ⟨p, ces, ck, hv, rfl, hp, hg, hw, hr, hbn⟩ := map_live h hm hx
    obtain ⟨rfl, rfl⟩ := val_inj ho
    refine ⟨_, .tuple #[], _, rfl, map_set_post h hg hp hw (ces' := #[]) ck ⟨⟨[], List.Perm.refl _, .nil⟩⟩ (fun e he => by simp at he), .tup _ _ .nil, ?_⟩
    simp [Builtin.clear_, K.run_under ht, run_getM hw, run_setM _ hw]

theorem bitsEq1_ok {a b : AV} {c d : Value} (h : bitsEq1 a b = true) (hc : VRel σ a c) (hd : VRel σ b d) (n : Nat) : Instr.sameBits n c d = true := by
  unfold bitsEq1 at h
  split at h
  · cases hc; cases hd; rw [boolEq_eq] at h; simpa [Instr.sameBits] using h
  · cases hc; cases hd
    simp only [Bool.and_eq_true] at h
    have := kindEq_eq h.1
    subst this
    rw [intEq_eq] at h
    simp [Instr.sameBits]
    simpa using h.2
  · cases hc with
    | str _ x hx => cases hd with
      | str _ y hy =>
        rw [← hx, ← hy, strEq_eq] at h
        have e : x.data.toList = y.data.toList := by simpa using h
        have : x = y := ByteArray.ext (Array.toList_inj.1 e)
        subst this
        simp only [Instr.sameBits]
        cases x; exact beq_self_eq_true (α := Array UInt8) _
  · cases h
theorem bitsEqs_ok : ∀ {a b : List AV} {c d : List Value}, bitsEqs a b = true → VRels σ a c → VRels σ b d → ∀ n, c.length = d.length ∧ ((c.zip d).all fun x => Instr.sameBits n x.1 x.2) = true
  | [], [], _, _, _, .nil, .nil, n => by simp
  | x :: a, y :: b, _, _, h, .cons _ _ _ _ h1 h2, .cons _ _ _ _ h3 h4, n => by
    simp only [bitsEqs, Bool.and_eq_true] at h
    have := bitsEqs_ok h.2 h2 h4 n
    simp [this.1, bitsEq1_ok h.1 h1 h3 n]
    simpa using this.2
  | [], _ :: _, _, _, h, _, _, n => by simp [bitsEqs] at h
  | _ :: _, [], _, _, h, _, _, n => by simp [bitsEqs] at h
theorem bitsEq_ok {a b : AV} {c d : Value} (h : bitsEq a b = true) (hc : VRel σ a c) (hd : VRel σ b d) : Instr.sameBits 10000 c d = true := by
  unfold bitsEq at h
  split at h
  · cases hc with
    | agg _ cs hcs => cases hd with
      | agg _ ds hds =>
        obtain ⟨h1, h2⟩ := bitsEqs_ok h hcs hds 9999
        show Instr.sameBits (9999 + 1) _ _ = true
        simp at h1
        simp [Instr.sameBits, h1]
        simpa using h2
  · exact bitsEq1_ok h hc hd _

end Go.Qa
end

/- Maps: writing; and the string over a row of bytes. -/
section
namespace Go.Qa
variable {P : Program} {C : Ctx} {σ : Sig} {T : Tmps} {a : Act} {s : St} {w : World}

theorem modify_at (A B : List MapEntry) (e : MapEntry) (ces : Array MapEntry) (hc : ces.toList = A ++ e :: B) (f : MapEntry → MapEntry) : (ces.modify A.length f).toList = A ++ f e :: B := by
  obtain ⟨l⟩ := ces
  simp at hc
  subst hc
  simp only [List.modify_toArray]
  induction A with
  | nil => simp
  | cons a A ih => simpa using ih
theorem erase_at (A B : List MapEntry) (e : MapEntry) (ces : Array MapEntry) (hc : ces.toList = A ++ e :: B) : (ces.eraseIdxIfInBounds A.length).toList = A ++ B := by
  obtain ⟨l⟩ := ces
  simp at hc
  subst hc
  simp [Array.eraseIdxIfInBounds, List.eraseIdx_append_of_length_le]

theorem op_mapup_ok (K : CtxOk C P) (h : HRel C σ s.get w) {t kt e : Nat} {q : EqT} (ht : C.I.under t = some (.map kt e)) (hq : cEq C.I C.stood 40 kt = some q) {m k v : AX} {c d f : Value} (hm : VRel σ (ev T m) c) (hk : VRel σ (ev T k) d) (hv : VRel σ (ev T v) f)
    {nx : ANext} {s' : St} (ho : op_mapup q m k v T s = some (nx, s')) : nx = .val .undef ∧ ∃ w', Post C σ s w σ s' w' ∧ (Instr.mapUpdate t c d f).run P w = .ok () w' := by
  unfold op_mapup at ho
  split at ho <;> first | (cases ho; done) | skip
  rename_i id es hmo hpo
  simp only [Bool.and_eq_true] at hpo
  have hck := fun b => checkKey_ok (P := P) K hq hk hpo.1 hpo.2 b w
  obtain ⟨du, hu⟩ := under_of_cEq hq
  obtain ⟨p, ces, ck, hv', rfl, hp, hg, hw, hr, hbn⟩ := map_live h hmo hm
  split at ho <;> first | (cases ho; done) | skip
  · rename_i j v0 hfa
    split at ho <;> first | (cases ho; done) | skip
    rename_i hbits
    injection ho with ho; injection ho with h1 h2
    rcases find_conc K h hu hq hk hr hfa with ⟨g1, _⟩ | ⟨E1, k', v', E2, L1, e0, L2, A, B, g1, g2, g3, g4, g5, g6, g7, g8, g9⟩
    · cases g1
    · injection g1 with g1; injection g1 with g1 g1'; subst g1'; subst g1; subst h2
      rw [g2, keyAt_at] at hbits
      have hsame := bitsEq_ok hbits g6 hk
      refine ⟨h1.symm, World.row w p.block (.map (ces.modify A.length fun e => { e with key := d, val := f }) ck), ?_, ?_⟩
      · refine map_set_post h hg hp hw ck ?_ (fun x hx => by
          rw [modify_at A B e0 ces g3] at hx
          rw [g3] at hbn
          rcases List.mem_append.1 hx with hx | hx
          · exact hbn x (List.mem_append_left _ hx)
          · rcases List.mem_cons.1 hx with rfl | hx
            · exact hbn e0 (List.mem_append_right _ List.mem_cons_self)
            · exact hbn x (List.mem_append_right _ (List.mem_cons_of_mem _ hx)))
        rw [g2, setM_at, modify_at A B e0 ces g3]
        refine ⟨⟨L1 ++ { e0 with key := d, val := f } :: L2, ?_, g4.append (.cons _ _ _ _ _ hk hv g5)⟩⟩
        exact List.perm_middle.trans ((List.Perm.cons _ g8).trans List.perm_middle.symm)
      · have hat : (ces[A.length]?).map (·.key) = some e0.key := by
          have : ces[A.length]? = some e0 := by rw [← Array.getElem?_toList, g3]; simp
          rw [this]; rfl
        simp [Instr.mapUpdate, K.run_under ht, run_getM hw, hck, g9, Instr.keyThatStays, hat, hsame, run_setM _ hw]
  · rename_i hfa
    injection ho with ho; injection ho with h1 h2
    subst h2
    rcases find_conc K h hu hq hk hr hfa with ⟨_, g9⟩ | ⟨E1, k', v', E2, L1, e0, L2, A, B, g1, _⟩
    · refine ⟨h1.symm, World.row w p.block (.map (ces.push { key := d, val := f, born := ck }) (ck + 1)), ?_, ?_⟩
      · refine map_set_post h hg hp hw (ck + 1) ?_ (fun x hx => by
          rw [Array.toList_push] at hx
          rcases List.mem_append.1 hx with hx | hx
          · exact Nat.lt_succ_of_lt (hbn x hx)
          · rw [List.mem_singleton] at hx; subst hx; exact Nat.lt_succ_self _)
        obtain ⟨l, a1, a2⟩ := hr.perm
        refine ⟨⟨l ++ [{ key := d, val := f, born := ck }], ?_, a2.append (.cons _ _ _ _ _ hk hv .nil)⟩⟩
        rw [Array.toList_push]
        exact a1.append_right _
      · simp [Instr.mapUpdate, K.run_under ht, run_getM hw, hck, g9, run_setM _ hw]
    · cases g1

theorem op_delete_ok (K : CtxOk C P) (h : HRel C σ s.get w) {t kt e ty : Nat} {ts : List Nat} {q : EqT} (ht : C.I.under t = some (.map kt e)) (hq : cEq C.I C.stood 40 kt = some q) {m k : AX} {c d : Value} (hm : VRel σ (ev T m) c) (hk : VRel σ (ev T k) d)
    {nx : ANext} {s' : St} (ho : op_delete q m k T s = some (nx, s')) : ∃ v r w', nx = .val v ∧ Post C σ s w σ s' w' ∧ VRel σ v r ∧ (Builtin.delete_ (t :: ts).toArray ty #[c, d]).run P w = .ok r w' := by
  unfold op_delete at ho
  split at ho <;> first | (cases ho; done) | skip
  rename_i id es hmo hpo
  simp only [Bool.and_eq_true] at hpo
  have hck := fun b => checkKey_ok (P := P) K hq hk hpo.1 hpo.2 b w
  obtain ⟨du, hu⟩ := under_of_cEq hq
  obtain ⟨p, ces, ck, hv', rfl, hp, hg, hw, hr, hbn⟩ := map_live h hmo hm
  split at ho <;> first | (cases ho; done) | skip
  · rename_i j v0 hfa
    obtain ⟨rfl, rfl⟩ := val_inj ho
    rcases find_conc K h hu hq hk hr hfa with ⟨g1, _⟩ | ⟨E1, k', v', E2, L1, e0, L2, A, B, g1, g2, g3, g4, g5, g6, g7, g8, g9⟩
    · cases g1
    · injection g1 with g1; injection g1 with g1 g1'; subst g1'; subst g1
      refine ⟨_, .tuple #[], World.row w p.block (.map (ces.eraseIdxIfInBounds A.length) ck), rfl, ?_, .tup _ _ .nil, ?_⟩
      · refine map_set_post h hg hp hw ck ?_ (fun x hx => by
          rw [erase_at A B e0 ces g3] at hx
          rw [g3] at hbn
          rcases List.mem_append.1 hx with hx | hx
          · exact hbn x (List.mem_append_left _ hx)
          · exact hbn x (List.mem_append_right _ (List.mem_cons_of_mem _ hx)))
        rw [g2, eraseM_at, erase_at A B e0 ces g3]
        exact ⟨⟨L1 ++ L2, g8, g4.append g5⟩⟩
      · simp [Builtin.delete_, K.run_under ht, run_getM hw, hck, g9, run_setM _ hw]
  · rename_i hfa
    obtain ⟨rfl, rfl⟩ := val_inj ho
    rcases find_conc K h hu hq hk hr hfa with ⟨_, g9⟩ | ⟨E1, k', v', E2, L1, e0, L2, A, B, g1, _⟩
    · refine ⟨_, .tuple #[], World.row w p.block (.map ces ck), rfl, map_set_post h hg hp hw ck hr hbn, .tup _ _ .nil, ?_⟩
      simp [Builtin.delete_, K.run_under ht, run_getM hw, hck, g9, run_setM _ hw]
    · cases g1

/-! ### the string over a row of bytes -/
theorem run_loadBytesAt : ∀ (l : List UInt8) (b o : Nat) (acc : ByteArray), (∀ j x, l[j]? = some x → w.cell? ⟨b, o + j, none⟩ = some (.int .u8 x.toNat)) → (loadBytes ⟨b, o, none⟩ acc l.length).run P w = .ok ⟨acc.data ++ l.toArray⟩ w :=
  fun l b o acc H => Lib.run_loadBytes w l ⟨b, o, none⟩ acc (fun j x hj => by rw [add_none]; exact H j x hj)

theorem op_ustr_ok (K : CtxOk C P) (h : HRel C σ s.get w) {t e ty : Nat} {ts : List Nat} (ht : C.I.under t = some (.pointer e)) (h8 : C.I.under e = some (.int .u8)) (hsz : C.I.size e = some 1) {x n : AX} {c d : Value} (hx : VRel σ (ev T x) c) (hn : VRel σ (ev T n) d)
    {nx : ANext} {s' : St} (ho : op_ustr e x n T s = some (nx, s')) : ∃ v r w', nx = .val v ∧ Post C σ s w σ s' w' ∧ VRel σ v r ∧ (Builtin.unsafeString_ (t :: ts).toArray ty #[c, d]).run P w = .ok r w' := by
  have hdef : ∀ (p : Option Addr) (k : IntKind) (m : Int), Builtin.unsafeString_ (t :: ts).toArray ty #[.pointer p, .int k m] =
      (do
        let n ← asInt (.int k m)
        if n < 0 then runtimePanic (.error "unsafe.String: len out of range")
        if n > IntKind.i64.max then unsupported (.unsafePointer "String: a length above the largest int")
        match p with
        | none => if n = 0 then pure (.string .empty) else runtimePanic (.error "unsafe.String: ptr is nil and len is not zero")
        | some a =>
          if n = 0 then pure (.string .empty)
          else if ← variablesAt a (← elemOf t) n.toNat then do
            let s ← loadBytes a .empty n.toNat
            freeze a n.toNat
            pure (.string s)
          else unsupported (.unsafePointer "String: not so many bytes at ptr")) := fun p k m => by cases p <;> rfl
  unfold op_ustr at ho
  split at ho <;> first | (cases ho; done) | skip
  · rename_i h1 h2
    rw [h1] at hx
    obtain ⟨k, rfl⟩ := natOf_rel hn h2
    cases hx
    obtain ⟨rfl, rfl⟩ := val_inj ho
    refine ⟨_, _, w, rfl, .refl h, .str [] ByteArray.empty rfl, ?_⟩
    rw [hdef]
    simp [asInt, asIntOf, IntKind.max_i64]
  · rename_i id off h1 h2
    rw [h1] at hx
    obtain ⟨k, rfl⟩ := natOf_rel hn h2
    cases hx
    obtain ⟨rfl, rfl⟩ := val_inj ho
    refine ⟨_, _, w, rfl, .refl h, .str [] ByteArray.empty rfl, ?_⟩
    rw [hdef]
    simp [asInt, asIntOf, IntKind.max_i64]
  · rename_i id off m hm0 h1 h2
    rw [h1] at hx
    obtain ⟨k, rfl⟩ := natOf_rel hn h2
    split at ho <;> first | (cases ho; done) | skip
    rename_i cl el fz hcs
    split at ho <;> first | (cases ho; done) | skip
    rename_i r hel hsl
    split at ho <;> first | (cases ho; done) | skip
    rename_i b hb
    obtain ⟨rfl, rfl⟩ := val_inj ho
    rw [Bool.and_eq_true] at hel
    have hbig := blt_big hel.2
    have hel1 := hel.1
    rw [beq_iff] at hel1
    have hel1 := of_decide_eq_true hel1
    subst hel1
    obtain ⟨p, cc, fr, hp, L⟩ := h.live hcs
    cases hx with
    | ptr _ _ q hq =>
      rw [hp] at hq; injection hq with hq; subst hq
      have hm1 : m ≠ 0 := fun e => by subst e; exact hm0 rfl
      obtain ⟨e1, e2, e3⟩ := slice_some hsl
      have hle : off + m ≤ cl.length := by
        rcases slice_len0 hsl with h0 | h0
        · exact absurd h0 hm1
        · exact h0
      have hrel := L.sub off m hle
      rw [← e1] at hrel
      obtain ⟨f1, f2⟩ := bytesOf_some hb hrel
      have hbl : b.length = m := by
        have := congrArg List.length f1
        have h3 := hrel.length
        simp at this h3
        omega
      let l : List UInt8 := b.map UInt8.ofNat
      have hll : l.length = m := by simp [l, hbl]
      have hl := L.len
      have hf := L.fits
      have hcell : ∀ j x, l[j]? = some x → w.cell? ⟨p.block, p.base + off + j, none⟩ = some (.int .u8 x.toNat) := fun j x hj => by
        rw [cell_row L.at_]
        have hjm : j < m := by rw [← hll]; exact (List.getElem?_eq_some_iff.1 hj).1
        have g1 : ((cc.toList.drop (p.base + off)).take m)[j]? = cc[p.base + off + j]? := by
          rw [List.getElem?_take, if_pos hjm, List.getElem?_drop]; simp
        rw [← g1, f1, List.getElem?_map]
        simp only [l, List.getElem?_map] at hj
        cases hbj : b[j]? with
        | none => rw [hbj] at hj; cases hj
        | some n0 =>
          rw [hbj] at hj
          simp at hj
          have hlt : n0 < 256 := f2 n0 (List.mem_of_getElem? hbj)
          rw [← hj]
          simp [UInt8.toNat_ofNat', Nat.mod_eq_of_lt hlt]
      have hlb := run_loadBytesAt (P := P) (w := w) l p.block (p.base + off) .empty hcell
      have hlies : liesAt P P.depth el (cc.size / P.cellsOf el) (p.base + off) el m = true := by
        have hc1 := info_size K hsz
        refine liesAt_own hc1 (by decide) (Nat.one_dvd _) ?_
        rw [hc1]; simp; omega
      have hg : s.get id ≠ none := by rw [St.cells_some hcs]; simp
      refine ⟨_, .string ⟨l.toArray⟩, w.freeze ⟨p.block, p.base + off, none⟩ m, rfl, ?_, .str _ _ ?_, ?_⟩
      · rw [freeze_row L.at_ _ _ hm1]
        refine post_mod h hg hp rfl rfl rfl rfl (fun j hj => by rw [St.get_kill, if_neg hj]) (fun b hb => row_get_other hb) (by simp [World.row]) rfl rfl rfl ?_
        intro o hoo
        rw [St.get_kill, if_pos rfl] at hoo
        cases hoo
      · exact ofNat_map f2
      · rw [hdef]
        have hneg : ¬ ((m : Int) < 0) := by omega
        have h63 : ¬ ((9223372036854775807 : Int) < (m : Int)) := by omega
        rw [hll] at hlb
        simp [asInt, asIntOf, IntKind.max_i64, hneg, h63, hm1, variablesAt, shape_cells L.at_, elemOf, K.run_under ht, hlies, hlb]

end Go.Qa
end
