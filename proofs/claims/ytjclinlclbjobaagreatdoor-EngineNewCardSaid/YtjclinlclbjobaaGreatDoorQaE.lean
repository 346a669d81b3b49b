/- Steps on the way to the card of EngineNew: the fast machine, for the kernel. -/
import Derived.Test.YtjclinlclbjobaaGreatDoorQaA
import Derived.Test.YtjclinlclbjobaaGreatDoorQaC
import Derived.Test.YtjclinlclbjobaaGreatDoorQaD
set_option linter.all false
set_option linter.unusedVariables false
set_option linter.unusedSimpArgs false
set_option linter.unnecessarySimpa false

/- The machine's functions once more by raw recursors, which the kernel reckons quickly; each is the same. -/
section
namespace Go.Qa

/-! ### By hand -/
noncomputable def hiddenR (l : List (Nat × Nat)) (n : Nat) : Bool :=
  @List.rec (Nat × Nat) (fun _ => Bool) false (fun e _ ih => @Bool.rec (fun _ => Bool) ih (@Bool.rec (fun _ => Bool) ih true (Nat.ble (Nat.succ n) e.2)) (Nat.ble e.1 n)) l
theorem hiddenR_eq : ∀ (l : List (Nat × Nat)) (n : Nat), hiddenR l n = hidden l n
  | [], _ => rfl
  | (a, b) :: r, n => by
    show @Bool.rec (fun _ => Bool) (hiddenR r n) (@Bool.rec (fun _ => Bool) (hiddenR r n) true (Nat.ble (Nat.succ n) b)) (Nat.ble a n) = _
    rw [hiddenR_eq r n]
    simp only [hidden]
    cases Nat.ble a n with
    | false => rfl
    | true => show @Bool.rec (fun _ => Bool) (hidden r n) true (Nat.blt n b) = _; cases Nat.blt n b <;> rfl
noncomputable def memNR (l : List Nat) (n : Nat) : Bool := @List.rec Nat (fun _ => Bool) false (fun a _ ih => @Bool.rec (fun _ => Bool) ih true (Nat.beq a n)) l
theorem memNR_eq : ∀ (l : List Nat) (n : Nat), memNR l n = memN l n
  | [], _ => rfl
  | a :: r, n => by
    show @Bool.rec (fun _ => Bool) (memNR r n) true (Nat.beq a n) = _
    rw [memNR_eq r n]; simp only [memN]; cases Nat.beq a n <;> rfl
noncomputable def getR {α : Type} (t : Tr α) : Nat → Option α :=
  @Tr.rec α (fun _ => Nat → Option α) (fun _ => none)
    (fun v _ _ ihl ihr n => @Bool.rec (fun _ => Option α) (@Bool.rec (fun _ => Option α) (ihr (Nat.sub (Nat.div n 2) 1)) (ihl (Nat.div n 2)) (Nat.beq (Nat.land n 1) 1)) v (Nat.beq n 0)) t
theorem getR_eq {α : Type} : ∀ (t : Tr α) (n : Nat), getR t n = t.get n
  | .nil, _ => rfl
  | .node v l r, n => by
    show @Bool.rec (fun _ => Option α) (@Bool.rec (fun _ => Option α) (getR r (Nat.sub (Nat.div n 2) 1)) (getR l (Nat.div n 2)) (Nat.beq (Nat.land n 1) 1)) v (Nat.beq n 0) = _
    rw [getR_eq l, getR_eq r]
    simp only [Tr.get]
    cases Nat.beq n 0 with
    | true => rfl
    | false => cases Nat.beq (Nat.land n 1) 1 <;> rfl
noncomputable def putR {α : Type} (x : Option α) (f : Nat) : Tr α → Nat → Tr α :=
  @Nat.rec (fun _ => Tr α → Nat → Tr α) (fun t _ => t)
    (fun _ ih t n => @Tr.rec α (fun _ => Tr α)
      (@Bool.rec (fun _ => Tr α) (@Bool.rec (fun _ => Tr α) (.node none .nil (ih .nil (Nat.sub (Nat.div n 2) 1))) (.node none (ih .nil (Nat.div n 2)) .nil) (Nat.beq (Nat.land n 1) 1)) (.node x .nil .nil) (Nat.beq n 0))
      (fun v l r _ _ => @Bool.rec (fun _ => Tr α) (@Bool.rec (fun _ => Tr α) (.node v l (ih r (Nat.sub (Nat.div n 2) 1))) (.node v (ih l (Nat.div n 2)) r) (Nat.beq (Nat.land n 1) 1)) (.node x l r) (Nat.beq n 0)) t) f
theorem putR_eq {α : Type} (x : Option α) : ∀ (f : Nat) (t : Tr α) (n : Nat), putR x f t n = Tr.put x f t n
  | 0, _, _ => rfl
  | f + 1, .nil, n => by
    show @Bool.rec (fun _ => Tr α) (@Bool.rec (fun _ => Tr α) (.node none .nil (putR x f .nil (Nat.sub (Nat.div n 2) 1))) (.node none (putR x f .nil (Nat.div n 2)) .nil) (Nat.beq (Nat.land n 1) 1)) (.node x .nil .nil) (Nat.beq n 0) = _
    rw [putR_eq x f, putR_eq x f]
    simp only [Tr.put]
    cases Nat.beq n 0 with
    | true => rfl
    | false => cases Nat.beq (Nat.land n 1) 1 <;> rfl
  | f + 1, .node v l r, n => by
    show @Bool.rec (fun _ => Tr α) (@Bool.rec (fun _ => Tr α) (.node v l (putR x f r (Nat.sub (Nat.div n 2) 1))) (.node v (putR x f l (Nat.div n 2)) r) (Nat.beq (Nat.land n 1) 1)) (.node x l r) (Nat.beq n 0) = _
    rw [putR_eq x f, putR_eq x f]
    simp only [Tr.put]
    cases Nat.beq n 0 with
    | true => rfl
    | false => cases Nat.beq (Nat.land n 1) 1 <;> rfl
noncomputable def ltakeR (n : Nat) : List AV → List AV := @Nat.rec (fun _ => List AV → List AV) (fun _ => []) (fun _ ih l => @List.rec AV (fun _ => List AV) [] (fun a t _ => a :: ih t) l) n
theorem ltakeR_eq : ∀ (n : Nat) (l : List AV), ltakeR n l = ltake n l
  | 0, _ => rfl
  | n + 1, [] => rfl
  | n + 1, a :: l => by show a :: ltakeR n l = _; rw [ltakeR_eq n l]; rfl
noncomputable def ldropR (n : Nat) : List AV → List AV := @Nat.rec (fun _ => List AV → List AV) (fun l => l) (fun _ ih l => @List.rec AV (fun _ => List AV) [] (fun _ t _ => ih t) l) n
theorem ldropR_eq : ∀ (n : Nat) (l : List AV), ldropR n l = ldrop n l
  | 0, _ => rfl
  | n + 1, [] => rfl
  | n + 1, a :: l => by show ldropR n l = _; rw [ldropR_eq n l]; rfl
noncomputable def llenR (l : List AV) : Nat := @List.rec AV (fun _ => Nat) 0 (fun _ _ ih => Nat.succ ih) l
theorem llenR_eq : ∀ l : List AV, llenR l = llen l
  | [] => rfl
  | a :: l => by show Nat.succ (llenR l) = _; rw [llenR_eq l]; rfl
noncomputable def lgetR (l : List AV) : Nat → Option AV := @List.rec AV (fun _ => Nat → Option AV) (fun _ => none) (fun a _ ih n => @Nat.rec (fun _ => Option AV) (some a) (fun m _ => ih m) n) l
theorem lgetR_eq : ∀ (l : List AV) (n : Nat), lgetR l n = lget? l n
  | [], _ => rfl
  | a :: l, 0 => rfl
  | a :: l, n + 1 => by show lgetR l n = _; rw [lgetR_eq l n]; rfl
noncomputable def oneR (v : AV) : Bool := @AV.rec (fun _ => Bool) (fun _ => Bool) (fun _ => true) (fun _ _ => true) (fun _ => true) true (fun _ _ => true) true (fun _ _ _ _ => true) (fun _ _ _ _ => true) true (fun _ => true) (fun _ _ _ _ _ => true) true true (fun _ _ => false) (fun _ _ => false) false (fun _ _ _ _ => false) v
theorem oneR_eq (v : AV) : oneR v = one v := by cases v <;> rfl
noncomputable def allOneR (l : List AV) : Bool := @List.rec AV (fun _ => Bool) true (fun v _ ih => @Bool.rec (fun _ => Bool) false ih (oneR v)) l
theorem allOneR_eq : ∀ l : List AV, allOneR l = allOne l
  | [] => rfl
  | v :: l => by
    show @Bool.rec (fun _ => Bool) false (allOneR l) (oneR v) = _
    rw [allOneR_eq l, oneR_eq]; simp only [allOne]; cases one v <;> rfl
noncomputable def overHR (new : List AV) : List AV → Option (List AV) :=
  @List.rec AV (fun _ => List AV → Option (List AV)) (fun c => some c) (fun v _ ih c => @List.rec AV (fun _ => Option (List AV)) none (fun _ c' _ => @Bool.rec (fun _ => Option (List AV)) none (@Option.rec (List AV) (fun _ => Option (List AV)) none (fun r => some (v :: r)) (ih c')) (oneR v)) c) new
theorem overHR_eq : ∀ (new c : List AV), overHR new c = over?.overHead c new
  | [], c => by cases c <;> rfl
  | v :: new, [] => rfl
  | v :: new, a :: c => by
    show @Bool.rec (fun _ => Option (List AV)) none (@Option.rec (List AV) (fun _ => Option (List AV)) none (fun r => some (v :: r)) (overHR new c)) (oneR v) = _
    rw [overHR_eq new c, oneR_eq]
    simp only [over?.overHead]
    cases one v <;> cases over?.overHead c new <;> rfl
noncomputable def overR (c : List AV) (off : Nat) (new : List AV) : Option (List AV) :=
  @Nat.rec (fun _ => List AV → Option (List AV)) (fun c => overHR new c) (fun _ ih c => @List.rec AV (fun _ => Option (List AV)) none (fun a t _ => @Option.rec (List AV) (fun _ => Option (List AV)) none (fun r => some (a :: r)) (ih t)) c) off c
theorem overR_eq : ∀ (c : List AV) (off : Nat) (new : List AV), overR c off new = over? c off new
  | c, 0, new => by
    have : overR c 0 new = overHR new c := rfl
    rw [this, overHR_eq]; cases c <;> rfl
  | [], n + 1, new => rfl
  | a :: c, n + 1, new => by
    show @Option.rec (List AV) (fun _ => Option (List AV)) none (fun r => some (a :: r)) (overR c n new) = _
    rw [overR_eq c n new]; simp only [over?]; cases over? c n new <;> rfl
noncomputable def appR (a b : List AV) : List AV := @List.rec AV (fun _ => List AV) b (fun x _ ih => x :: ih) a
theorem appR_eq : ∀ a b : List AV, appR a b = a ++ b
  | [], _ => rfl
  | x :: a, b => by show x :: appR a b = _; rw [appR_eq a b]; rfl
noncomputable def repR (n : Nat) (z : List AV) : List AV := @Nat.rec (fun _ => List AV) [] (fun _ ih => appR z ih) n
theorem repR_eq : ∀ (n : Nat) (z : List AV), repR n z = rep n z
  | 0, _ => rfl
  | n + 1, z => by show appR z (repR n z) = _; rw [repR_eq n z, appR_eq]; rfl
noncomputable def nlenR (l : List Nat) : Nat := @List.rec Nat (fun _ => Nat) 0 (fun _ _ ih => Nat.succ ih) l
theorem nlenR_eq : ∀ l : List Nat, nlenR l = nlen l
  | [] => rfl
  | a :: l => by show Nat.succ (nlenR l) = _; rw [nlenR_eq l]; rfl
noncomputable def ntakeR (n : Nat) : List Nat → List Nat := @Nat.rec (fun _ => List Nat → List Nat) (fun _ => []) (fun _ ih l => @List.rec Nat (fun _ => List Nat) [] (fun a t _ => a :: ih t) l) n
theorem ntakeR_eq : ∀ (n : Nat) (l : List Nat), ntakeR n l = ntake n l
  | 0, _ => rfl
  | n + 1, [] => rfl
  | n + 1, a :: l => by show a :: ntakeR n l = _; rw [ntakeR_eq n l]; rfl
noncomputable def ndropR (n : Nat) : List Nat → List Nat := @Nat.rec (fun _ => List Nat → List Nat) (fun l => l) (fun _ ih l => @List.rec Nat (fun _ => List Nat) [] (fun _ t _ => ih t) l) n
theorem ndropR_eq : ∀ (n : Nat) (l : List Nat), ndropR n l = ndrop n l
  | 0, _ => rfl
  | n + 1, [] => rfl
  | n + 1, a :: l => by show ndropR n l = _; rw [ndropR_eq n l]; rfl
noncomputable def ngetR (l : List Nat) : Nat → Option Nat := @List.rec Nat (fun _ => Nat → Option Nat) (fun _ => none) (fun a _ ih n => @Nat.rec (fun _ => Option Nat) (some a) (fun m _ => ih m) n) l
theorem ngetR_eq : ∀ (l : List Nat) (n : Nat), ngetR l n = nget? l n
  | [], _ => rfl
  | a :: l, 0 => rfl
  | a :: l, n + 1 => by show ngetR l n = _; rw [ngetR_eq l n]; rfl
noncomputable def ofBytesR (l : List Nat) : List AV := @List.rec Nat (fun _ => List AV) [] (fun n _ ih => .int .u8 (.ofNat n) :: ih) l
theorem ofBytesR_eq : ∀ l : List Nat, ofBytesR l = ofBytes l
  | [] => rfl
  | a :: l => by show _ :: ofBytesR l = _; rw [ofBytesR_eq l]; rfl
noncomputable def byteR (v : AV) : Option Nat := @AV.rec (fun _ => Option Nat) (fun _ => Option Nat) (fun _ => none) (fun k n => @IntKind.rec (fun _ => Option Nat) none none none none (@Int.rec (fun _ => Option Nat) (fun n => @Bool.rec (fun _ => Option Nat) none (some n) (Nat.blt n 256)) (fun _ => none) n) none none none k) (fun _ => none) none (fun _ _ => none) none (fun _ _ _ _ => none) (fun _ _ _ _ => none) none (fun _ => none) (fun _ _ _ _ _ => none) none none (fun _ _ => none) (fun _ _ => none) none (fun _ _ _ _ => none) v
noncomputable def bytesOfR (l : List AV) : Option (List Nat) := @List.rec AV (fun _ => Option (List Nat)) (some []) (fun v _ ih => @Option.rec Nat (fun _ => Option (List Nat)) none (fun n => @Option.rec (List Nat) (fun _ => Option (List Nat)) none (fun r => some (n :: r)) ih) (byteR v)) l
theorem bytesOfR_eq : ∀ l : List AV, bytesOfR l = bytesOf l
  | [] => rfl
  | v :: l => by
    show @Option.rec Nat (fun _ => Option (List Nat)) none (fun n => @Option.rec (List Nat) (fun _ => Option (List Nat)) none (fun r => some (n :: r)) (bytesOfR l)) (byteR v) = _
    rw [bytesOfR_eq l]
    cases v <;> first | rfl | skip
    rename_i k n
    cases k <;> first | rfl | skip
    cases n <;> first | rfl | skip
    rename_i n
    simp only [bytesOf]
    show @Option.rec Nat (fun _ => Option (List Nat)) none (fun n => @Option.rec (List Nat) (fun _ => Option (List Nat)) none (fun r => some (n :: r)) (bytesOf l)) (@Bool.rec (fun _ => Option Nat) none (some n) (Nat.blt n 256)) = _
    cases Nat.blt n 256 <;> cases bytesOf l <;> rfl
noncomputable def cellsR (v : AV) : List AV := @AV.rec (fun _ => List AV) (fun _ => List AV) (fun _ => [v]) (fun _ _ => [v]) (fun _ => [v]) [v] (fun _ _ => [v]) [v] (fun _ _ _ _ => [v]) (fun _ _ _ _ => [v]) [v] (fun _ => [v]) (fun _ _ _ _ _ => [v]) [v] [v] (fun l _ => l) (fun _ _ => [v]) [] (fun _ _ _ _ => []) v
theorem cellsR_eq (v : AV) : cellsR v = v.cells := by cases v <;> rfl
noncomputable def noteAllR (s : St) (l : List Nat) : List Nat := @List.rec Nat (fun _ => List Nat) s.wr (fun x _ ih => @Bool.rec (fun _ => List Nat) ih (@Bool.rec (fun _ => List Nat) (x :: ih) ih (memNR ih x)) (Nat.blt x s.base)) l
theorem noteAllR_eq (s : St) : ∀ l : List Nat, noteAllR s l = noteAll s l
  | [] => rfl
  | x :: l => by
    show @Bool.rec (fun _ => List Nat) (noteAllR s l) (@Bool.rec (fun _ => List Nat) (x :: noteAllR s l) (noteAllR s l) (memNR (noteAllR s l) x)) (Nat.blt x s.base) = _
    rw [noteAllR_eq s l, memNR_eq]
    simp only [noteAll]
    cases Nat.blt x s.base with
    | false => rfl
    | true => cases memN (noteAll s l) x <;> rfl
noncomputable def evPartsR (T : Tmps) (l : List (Nat × Nat × AX)) : List (Nat × Nat × AV) := @List.rec (Nat × Nat × AX) (fun _ => List (Nat × Nat × AV)) [] (fun e _ ih => (e.1, e.2.1, ev T e.2.2) :: ih) l
theorem evPartsR_eq (T : Tmps) : ∀ l : List (Nat × Nat × AX), evPartsR T l = evParts T l
  | [] => rfl
  | (a, b, c) :: l => by show _ :: evPartsR T l = _; rw [evPartsR_eq T l]; rfl
noncomputable def evsR (T : Tmps) (l : List AX) : List AV := @List.rec AX (fun _ => List AV) [] (fun x _ ih => ev T x :: ih) l
theorem evsR_eq (T : Tmps) : ∀ l : List AX, evsR T l = evs T l
  | [] => rfl
  | x :: l => by show _ :: evsR T l = _; rw [evsR_eq T l]; rfl
noncomputable def fillR (l : List (Nat × Nat × AV)) : List AV → Option (List AV) :=
  @List.rec (Nat × Nat × AV) (fun _ => List AV → Option (List AV)) (fun c => some c)
    (fun e _ ih c => @Bool.rec (fun _ => Option (List AV)) none (@Option.rec (List AV) (fun _ => Option (List AV)) none (fun c' => ih c') (overR c e.1 (cellsR e.2.2))) (Nat.beq (llenR (cellsR e.2.2)) e.2.1)) l
theorem fillR_eq : ∀ (l : List (Nat × Nat × AV)) (c : List AV), fillR l c = fillA l c
  | [], _ => rfl
  | (off, sz, v) :: l, c => by
    show @Bool.rec (fun _ => Option (List AV)) none (@Option.rec (List AV) (fun _ => Option (List AV)) none (fun c' => fillR l c') (overR c off (cellsR v))) (Nat.beq (llenR (cellsR v)) sz) = _
    have : (fun c' => fillR l c') = fun c' => fillA l c' := funext (fillR_eq l)
    rw [this, overR_eq, cellsR_eq, llenR_eq]
    simp only [fillA]
    cases Nat.beq (llen v.cells) sz with
    | false => rfl
    | true => cases over? c off v.cells <;> rfl
noncomputable def strEqR (x : List Nat) : List Nat → Bool := @List.rec Nat (fun _ => List Nat → Bool) (fun y => @List.rec Nat (fun _ => Bool) true (fun _ _ _ => false) y) (fun a _ ih y => @List.rec Nat (fun _ => Bool) false (fun b t _ => @Bool.rec (fun _ => Bool) false (ih t) (Nat.beq a b)) y) x
theorem strEqR_eq : ∀ x y : List Nat, strEqR x y = strEq x y
  | [], [] => rfl
  | [], _ :: _ => rfl
  | _ :: _, [] => rfl
  | a :: x, b :: y => by
    show @Bool.rec (fun _ => Bool) false (strEqR x y) (Nat.beq a b) = _
    rw [strEqR_eq x y]; simp only [strEq]; cases Nat.beq a b <;> rfl


/-! ### Copied, with the names turned -/

noncomputable def St.getS (s : St) (id : Nat) : Option AO :=
  match Nat.blt id s.next with
  | true => (match hiddenR s.hid id with
    | true => none
    | false => getR s.heap id)
  | false => none

theorem St.getS_eq (s : St) (id : Nat) : St.getS s id = St.get s id := by unfold St.getS St.get; simp only [hiddenR_eq, memNR_eq, ltakeR_eq, ldropR_eq, llenR_eq, lgetR_eq, oneR_eq, allOneR_eq, overR_eq, repR_eq, nlenR_eq, ntakeR_eq, ndropR_eq, ngetR_eq, ofBytesR_eq, bytesOfR_eq, noteAllR_eq, evPartsR_eq, evsR_eq, fillR_eq, strEqR_eq, getR_eq, putR_eq, cellsR_eq, appR_eq] <;> rfl

noncomputable def St.noteS (s : St) (id : Nat) : List Nat :=
  match Nat.blt id s.base with
  | true => (match memNR s.wr id with
    | true => s.wr
    | false => id :: s.wr)
  | false => s.wr

theorem St.noteS_eq (s : St) (id : Nat) : St.noteS s id = St.note s id := by unfold St.noteS St.note; simp only [hiddenR_eq, memNR_eq, ltakeR_eq, ldropR_eq, llenR_eq, lgetR_eq, oneR_eq, allOneR_eq, overR_eq, repR_eq, nlenR_eq, ntakeR_eq, ndropR_eq, ngetR_eq, ofBytesR_eq, bytesOfR_eq, noteAllR_eq, evPartsR_eq, evsR_eq, fillR_eq, strEqR_eq, getR_eq, putR_eq, cellsR_eq, appR_eq, St.getS_eq] <;> rfl

noncomputable def St.setS (s : St) (id : Nat) (o : AO) : St := ⟨putR (some o) (Nat.succ id) s.heap id, s.next, s.base, s.noteS id, s.hid⟩

theorem St.setS_eq (s : St) (id : Nat) (o : AO) : St.setS s id o = St.set s id o := by unfold St.setS St.set; simp only [hiddenR_eq, memNR_eq, ltakeR_eq, ldropR_eq, llenR_eq, lgetR_eq, oneR_eq, allOneR_eq, overR_eq, repR_eq, nlenR_eq, ntakeR_eq, ndropR_eq, ngetR_eq, ofBytesR_eq, bytesOfR_eq, noteAllR_eq, evPartsR_eq, evsR_eq, fillR_eq, strEqR_eq, getR_eq, putR_eq, cellsR_eq, appR_eq, St.getS_eq, St.noteS_eq] <;> rfl

noncomputable def St.killS (s : St) (id : Nat) : St := ⟨putR none (Nat.succ id) s.heap id, s.next, s.base, s.noteS id, s.hid⟩

theorem St.killS_eq (s : St) (id : Nat) : St.killS s id = St.kill s id := by unfold St.killS St.kill; simp only [hiddenR_eq, memNR_eq, ltakeR_eq, ldropR_eq, llenR_eq, lgetR_eq, oneR_eq, allOneR_eq, overR_eq, repR_eq, nlenR_eq, ntakeR_eq, ndropR_eq, ngetR_eq, ofBytesR_eq, bytesOfR_eq, noteAllR_eq, evPartsR_eq, evsR_eq, fillR_eq, strEqR_eq, getR_eq, putR_eq, cellsR_eq, appR_eq, St.getS_eq, St.noteS_eq, St.setS_eq] <;> rfl

noncomputable def St.newS (s : St) (o : AO) : St := ⟨putR (some o) (Nat.succ s.next) s.heap s.next, Nat.succ s.next, s.base, s.wr, s.hid⟩

theorem St.newS_eq (s : St) (o : AO) : St.newS s o = St.new s o := by unfold St.newS St.new; simp only [hiddenR_eq, memNR_eq, ltakeR_eq, ldropR_eq, llenR_eq, lgetR_eq, oneR_eq, allOneR_eq, overR_eq, repR_eq, nlenR_eq, ntakeR_eq, ndropR_eq, ngetR_eq, ofBytesR_eq, bytesOfR_eq, noteAllR_eq, evPartsR_eq, evsR_eq, fillR_eq, strEqR_eq, getR_eq, putR_eq, cellsR_eq, appR_eq, St.getS_eq, St.noteS_eq, St.setS_eq, St.killS_eq] <;> rfl

noncomputable def St.cellsS (s : St) (id : Nat) : Option (List AV × Nat × Bool) :=
  match s.getS id with
  | some (.cells c el fz) => some (c, el, fz)
  | _ => none

theorem St.cellsS_eq (s : St) (id : Nat) : St.cellsS s id = St.cells s id := by unfold St.cellsS St.cells; simp only [hiddenR_eq, memNR_eq, ltakeR_eq, ldropR_eq, llenR_eq, lgetR_eq, oneR_eq, allOneR_eq, overR_eq, repR_eq, nlenR_eq, ntakeR_eq, ndropR_eq, ngetR_eq, ofBytesR_eq, bytesOfR_eq, noteAllR_eq, evPartsR_eq, evsR_eq, fillR_eq, strEqR_eq, getR_eq, putR_eq, cellsR_eq, appR_eq, St.getS_eq, St.noteS_eq, St.setS_eq, St.killS_eq, St.newS_eq] <;> rfl

noncomputable def sliceR (c : List AV) (off n : Nat) : Option (List AV) :=
  let r := ltakeR n (ldropR off c)
  match Nat.beq (llenR r) n with
  | true => some r
  | false => none

theorem sliceR_eq (c : List AV) (off n : Nat) : sliceR c off n = slice? c off n := by unfold sliceR slice?; simp only [hiddenR_eq, memNR_eq, ltakeR_eq, ldropR_eq, llenR_eq, lgetR_eq, oneR_eq, allOneR_eq, overR_eq, repR_eq, nlenR_eq, ntakeR_eq, ndropR_eq, ngetR_eq, ofBytesR_eq, bytesOfR_eq, noteAllR_eq, evPartsR_eq, evsR_eq, fillR_eq, strEqR_eq, getR_eq, putR_eq, cellsR_eq, appR_eq, St.getS_eq, St.noteS_eq, St.setS_eq, St.killS_eq, St.newS_eq, St.cellsS_eq] <;> rfl

noncomputable def partR (sz : Option Nat) (c : List AV) (off : Nat) : Option AV :=
  match sz with
  | none => lgetR c off
  | some n => (match sliceR c off n with
    | some r => some (.agg r)
    | none => none)

theorem partR_eq (sz : Option Nat) (c : List AV) (off : Nat) : partR sz c off = part? sz c off := by unfold partR part?; simp only [hiddenR_eq, memNR_eq, ltakeR_eq, ldropR_eq, llenR_eq, lgetR_eq, oneR_eq, allOneR_eq, overR_eq, repR_eq, nlenR_eq, ntakeR_eq, ndropR_eq, ngetR_eq, ofBytesR_eq, bytesOfR_eq, noteAllR_eq, evPartsR_eq, evsR_eq, fillR_eq, strEqR_eq, getR_eq, putR_eq, cellsR_eq, appR_eq, St.getS_eq, St.noteS_eq, St.setS_eq, St.killS_eq, St.newS_eq, St.cellsS_eq, sliceR_eq] <;> rfl

noncomputable def binStrR (op : BinOp) (x y : List Nat) : Option AV :=
  match op with
  | .add => (match Nat.blt (nlenR x + nlenR y) big with
    | true => some (.str (x ++ y))
    | false => none)
  | .eql => some (.bool (strEqR x y))
  | .neq => some (.bool (!(strEqR x y)))
  | .lss => some (.bool (strLt x y))
  | .leq => some (.bool (strLt x y || strEqR x y))
  | .gtr => some (.bool (!(strLt x y || strEqR x y)))
  | .geq => some (.bool (!(strLt x y)))
  | _ => none

theorem binStrR_eq (op : BinOp) (x y : List Nat) : binStrR op x y = binStr op x y := by unfold binStrR binStr; simp only [hiddenR_eq, memNR_eq, ltakeR_eq, ldropR_eq, llenR_eq, lgetR_eq, oneR_eq, allOneR_eq, overR_eq, repR_eq, nlenR_eq, ntakeR_eq, ndropR_eq, ngetR_eq, ofBytesR_eq, bytesOfR_eq, noteAllR_eq, evPartsR_eq, evsR_eq, fillR_eq, strEqR_eq, getR_eq, putR_eq, cellsR_eq, appR_eq, St.getS_eq, St.noteS_eq, St.setS_eq, St.killS_eq, St.newS_eq, St.cellsS_eq, sliceR_eq, partR_eq] <;> rfl

noncomputable def binAR (op : BinOp) (x y : AV) : Option AV :=
  match x, y with
  | .int k a, .int k' b =>
    match op with
    | .shl | .shr => shiftA op k a b
    | _ => match kindEq k k' with
      | true => binInt op k a b
      | false => none
  | .str a, .str b => binStrR op a b
  | _, _ => none

theorem binAR_eq (op : BinOp) (x y : AV) : binAR op x y = binA op x y := by unfold binAR binA; simp only [hiddenR_eq, memNR_eq, ltakeR_eq, ldropR_eq, llenR_eq, lgetR_eq, oneR_eq, allOneR_eq, overR_eq, repR_eq, nlenR_eq, ntakeR_eq, ndropR_eq, ngetR_eq, ofBytesR_eq, bytesOfR_eq, noteAllR_eq, evPartsR_eq, evsR_eq, fillR_eq, strEqR_eq, getR_eq, putR_eq, cellsR_eq, appR_eq, St.getS_eq, St.noteS_eq, St.setS_eq, St.killS_eq, St.newS_eq, St.cellsS_eq, sliceR_eq, partR_eq, binStrR_eq] <;> rfl

noncomputable def cleanR (s : St) (id : Nat) : Bool :=
  match s.getS id with
  | some (.cells _ _ false) => true
  | _ => false

theorem cleanR_eq (s : St) (id : Nat) : cleanR s id = clean s id := by unfold cleanR clean; simp only [hiddenR_eq, memNR_eq, ltakeR_eq, ldropR_eq, llenR_eq, lgetR_eq, oneR_eq, allOneR_eq, overR_eq, repR_eq, nlenR_eq, ntakeR_eq, ndropR_eq, ngetR_eq, ofBytesR_eq, bytesOfR_eq, noteAllR_eq, evPartsR_eq, evsR_eq, fillR_eq, strEqR_eq, getR_eq, putR_eq, cellsR_eq, appR_eq, St.getS_eq, St.noteS_eq, St.setS_eq, St.killS_eq, St.newS_eq, St.cellsS_eq, sliceR_eq, partR_eq, binStrR_eq, binAR_eq] <;> rfl

noncomputable def firstAR (s : St) (esz n : Nat) : AV → Option (List AV)
  | .nilsl => (match n with
    | 0 => some []
    | _ + 1 => none)
  | .sl id off len _ => (match Nat.ble n len with
    | true => (match s.cellsS id with
      | some (c, _, _) => sliceR c off (n * esz)
      | none => none)
    | false => none)
  | .slo id off len _ => (match n with
    | 0 => some []
    | n + 1 => (match Nat.blt n len with
      | true => (match s.cellsS id with
        | some (c, _, _) => sliceR c off ((n + 1) * esz)
        | none => none)
      | false => none))
  | .str b => (match Nat.beq esz 1, Nat.ble n (nlenR b) with
    | true, true => some (ofBytesR (ntakeR n b))
    | _, _ => none)
  | _ => none

theorem firstAR_eq (s : St) (esz n : Nat) (v : AV) : firstAR s esz n v = firstA s esz n v := by unfold firstAR firstA; simp only [hiddenR_eq, memNR_eq, ltakeR_eq, ldropR_eq, llenR_eq, lgetR_eq, oneR_eq, allOneR_eq, overR_eq, repR_eq, nlenR_eq, ntakeR_eq, ndropR_eq, ngetR_eq, ofBytesR_eq, bytesOfR_eq, noteAllR_eq, evPartsR_eq, evsR_eq, fillR_eq, strEqR_eq, getR_eq, putR_eq, cellsR_eq, appR_eq, St.getS_eq, St.noteS_eq, St.setS_eq, St.killS_eq, St.newS_eq, St.cellsS_eq, sliceR_eq, partR_eq, binStrR_eq, binAR_eq, cleanR_eq] <;> rfl

noncomputable def lenAR : AV → Option Nat
  | .nilsl => some 0
  | .sl _ _ n _ => some n
  | .slo _ _ n _ => some n
  | .str b => some (nlenR b)
  | _ => none

theorem lenAR_eq  (v : AV) : lenAR  v = lenA  v := by cases v <;> first | rfl | (simp only [lenAR, lenA, nlenR_eq])

noncomputable def appendNewR (s : St) (elem esz : Nat) (cells : List AV) (need : Nat) (fz : Bool) : Option (AV × St) :=
  match Nat.ble (need * 4096) big, Nat.blt s.next big with
  | true, true => some (.slo s.next 0 need esz, s.newS (.cells cells elem fz))
  | _, _ => none

theorem appendNewR_eq (s : St) (elem esz : Nat) (cells : List AV) (need : Nat) (fz : Bool) : appendNewR s elem esz cells need fz = appendNew s elem esz cells need fz := by unfold appendNewR appendNew; simp only [hiddenR_eq, memNR_eq, ltakeR_eq, ldropR_eq, llenR_eq, lgetR_eq, oneR_eq, allOneR_eq, overR_eq, repR_eq, nlenR_eq, ntakeR_eq, ndropR_eq, ngetR_eq, ofBytesR_eq, bytesOfR_eq, noteAllR_eq, evPartsR_eq, evsR_eq, fillR_eq, strEqR_eq, getR_eq, putR_eq, cellsR_eq, appR_eq, St.getS_eq, St.noteS_eq, St.setS_eq, St.killS_eq, St.newS_eq, St.cellsS_eq, sliceR_eq, partR_eq, binStrR_eq, binAR_eq, cleanR_eq, firstAR_eq, lenAR_eq] <;> rfl

noncomputable def appendAR (s : St) (elem esz bytes : Nat) (x : AV) (new : List AV) (n : Nat) : Option (AV × St) :=
  match Nat.ble bytes 4096, Nat.beq esz 0, Nat.beq bytes 0, n with
  | true, false, false, 0 => (match x with
    | .nilsl | .sl .. | .slo .. => some (x, s)
    | _ => none)
  | true, false, false, n + 1 =>
    (match x with
    | .nilsl => appendNewR s elem esz new (n + 1) false
    | .sl id off len cap =>
      (match Nat.ble (len + n + 1) cap with
      | true => (match s.cellsS id with
        | some (c, el, fz) => (match overR c (off + len * esz) new with
          | some c' => (match Nat.ble (off + cap * esz) (llenR c) with
            | true => some (.sl id off (len + n + 1) cap, s.setS id (.cells c' el fz))
            | false => none)
          | none => none)
        | none => none)
      | false => (match firstAR s esz len x with
        | some c => appendNewR s elem esz (appR c new) (len + n + 1) false
        | none => none))
    | .slo id off len e => (match Nat.beq e esz, s.cellsS id with
      | true, some (c, el, fz) => (match Nat.beq el elem, sliceR c off (len * esz), allOneR new with
        | true, some c, true => appendNewR (s.killS id) elem esz (appR c new) (len + n + 1) fz
        | _, _, _ => none)
      | _, _ => none)
    | _ => none)
  | _, _, _, _ => none

theorem appendAR_eq (s : St) (elem esz bytes : Nat) (x : AV) (new : List AV) (n : Nat) : appendAR s elem esz bytes x new n = appendA s elem esz bytes x new n := by unfold appendAR appendA; simp only [hiddenR_eq, memNR_eq, ltakeR_eq, ldropR_eq, llenR_eq, lgetR_eq, oneR_eq, allOneR_eq, overR_eq, repR_eq, nlenR_eq, ntakeR_eq, ndropR_eq, ngetR_eq, ofBytesR_eq, bytesOfR_eq, noteAllR_eq, evPartsR_eq, evsR_eq, fillR_eq, strEqR_eq, getR_eq, putR_eq, cellsR_eq, appR_eq, St.getS_eq, St.noteS_eq, St.setS_eq, St.killS_eq, St.newS_eq, St.cellsS_eq, sliceR_eq, partR_eq, binStrR_eq, binAR_eq, cleanR_eq, firstAR_eq, lenAR_eq, appendNewR_eq] <;> rfl

noncomputable def sliceStrR (b : List Nat) (l h : Nat) : AV := .str (ntakeR (h - l) (ndropR l b))

theorem sliceStrR_eq (b : List Nat) (l h : Nat) : sliceStrR b l h = sliceStr b l h := by unfold sliceStrR sliceStr; simp only [hiddenR_eq, memNR_eq, ltakeR_eq, ldropR_eq, llenR_eq, lgetR_eq, oneR_eq, allOneR_eq, overR_eq, repR_eq, nlenR_eq, ntakeR_eq, ndropR_eq, ngetR_eq, ofBytesR_eq, bytesOfR_eq, noteAllR_eq, evPartsR_eq, evsR_eq, fillR_eq, strEqR_eq, getR_eq, putR_eq, cellsR_eq, appR_eq, St.getS_eq, St.noteS_eq, St.setS_eq, St.killS_eq, St.newS_eq, St.cellsS_eq, sliceR_eq, partR_eq, binStrR_eq, binAR_eq, cleanR_eq, firstAR_eq, lenAR_eq, appendNewR_eq, appendAR_eq] <;> rfl

noncomputable def op_newR (elem : Nat) (zero : List AV) (T : Tmps) (s : St) : Out := (match Nat.blt s.next big with
    | true => val (.ptr s.next 0) (s.newS (.cells zero elem false))
    | false => none)

theorem op_newR_eq (elem : Nat) (zero : List AV) (T : Tmps) (s : St) : op_newR elem zero T s = op_new elem zero T s := by unfold op_newR op_new; simp only [hiddenR_eq, memNR_eq, ltakeR_eq, ldropR_eq, llenR_eq, lgetR_eq, oneR_eq, allOneR_eq, overR_eq, repR_eq, nlenR_eq, ntakeR_eq, ndropR_eq, ngetR_eq, ofBytesR_eq, bytesOfR_eq, noteAllR_eq, evPartsR_eq, evsR_eq, fillR_eq, strEqR_eq, getR_eq, putR_eq, cellsR_eq, appR_eq, St.getS_eq, St.noteS_eq, St.setS_eq, St.killS_eq, St.newS_eq, St.cellsS_eq, sliceR_eq, partR_eq, binStrR_eq, binAR_eq, cleanR_eq, firstAR_eq, lenAR_eq, appendNewR_eq, appendAR_eq, sliceStrR_eq] <;> rfl

noncomputable def op_boxR (elem : Nat) (x : AX) (T : Tmps) (s : St) : Out := (match Nat.blt s.next big with
    | true => val (.ptr s.next 0) (s.newS (.cells (cellsR (ev T x)) elem false))
    | false => none)

theorem op_boxR_eq (elem : Nat) (x : AX) (T : Tmps) (s : St) : op_boxR elem x T s = op_box elem x T s := by unfold op_boxR op_box; simp only [hiddenR_eq, memNR_eq, ltakeR_eq, ldropR_eq, llenR_eq, lgetR_eq, oneR_eq, allOneR_eq, overR_eq, repR_eq, nlenR_eq, ntakeR_eq, ndropR_eq, ngetR_eq, ofBytesR_eq, bytesOfR_eq, noteAllR_eq, evPartsR_eq, evsR_eq, fillR_eq, strEqR_eq, getR_eq, putR_eq, cellsR_eq, appR_eq, St.getS_eq, St.noteS_eq, St.setS_eq, St.killS_eq, St.newS_eq, St.cellsS_eq, sliceR_eq, partR_eq, binStrR_eq, binAR_eq, cleanR_eq, firstAR_eq, lenAR_eq, appendNewR_eq, appendAR_eq, sliceStrR_eq, op_newR_eq] <;> rfl

noncomputable def op_buildR (zero : List AV) (parts : List (Nat × Nat × AX)) (T : Tmps) (s : St) : Out := (match fillR (evPartsR T parts) zero with
    | some c => val (.agg c) s
    | none => none)

theorem op_buildR_eq (zero : List AV) (parts : List (Nat × Nat × AX)) (T : Tmps) (s : St) : op_buildR zero parts T s = op_build zero parts T s := by unfold op_buildR op_build; simp only [hiddenR_eq, memNR_eq, ltakeR_eq, ldropR_eq, llenR_eq, lgetR_eq, oneR_eq, allOneR_eq, overR_eq, repR_eq, nlenR_eq, ntakeR_eq, ndropR_eq, ngetR_eq, ofBytesR_eq, bytesOfR_eq, noteAllR_eq, evPartsR_eq, evsR_eq, fillR_eq, strEqR_eq, getR_eq, putR_eq, cellsR_eq, appR_eq, St.getS_eq, St.noteS_eq, St.setS_eq, St.killS_eq, St.newS_eq, St.cellsS_eq, sliceR_eq, partR_eq, binStrR_eq, binAR_eq, cleanR_eq, firstAR_eq, lenAR_eq, appendNewR_eq, appendAR_eq, sliceStrR_eq, op_newR_eq, op_boxR_eq] <;> rfl

noncomputable def op_buildSR (elem len : Nat) (zero : List AV) (parts : List (Nat × Nat × AX)) (T : Tmps) (s : St) : Out := (match Nat.blt s.next big, fillR (evPartsR T parts) zero with
    | true, some c => val (.sl s.next 0 len len) (s.newS (.cells c elem false))
    | _, _ => none)

theorem op_buildSR_eq (elem len : Nat) (zero : List AV) (parts : List (Nat × Nat × AX)) (T : Tmps) (s : St) : op_buildSR elem len zero parts T s = op_buildS elem len zero parts T s := by unfold op_buildSR op_buildS; simp only [hiddenR_eq, memNR_eq, ltakeR_eq, ldropR_eq, llenR_eq, lgetR_eq, oneR_eq, allOneR_eq, overR_eq, repR_eq, nlenR_eq, ntakeR_eq, ndropR_eq, ngetR_eq, ofBytesR_eq, bytesOfR_eq, noteAllR_eq, evPartsR_eq, evsR_eq, fillR_eq, strEqR_eq, getR_eq, putR_eq, cellsR_eq, appR_eq, St.getS_eq, St.noteS_eq, St.setS_eq, St.killS_eq, St.newS_eq, St.cellsS_eq, sliceR_eq, partR_eq, binStrR_eq, binAR_eq, cleanR_eq, firstAR_eq, lenAR_eq, appendNewR_eq, appendAR_eq, sliceStrR_eq, op_newR_eq, op_boxR_eq, op_buildR_eq] <;> rfl

noncomputable def op_loadR (sz : Option Nat) (x : AX) (T : Tmps) (s : St) : Out := (match ev T x with
    | .ptr id off => (match s.cellsS id with
      | some (c, _, _) => val? (partR sz c off) s
      | none => none)
    | _ => none)

theorem op_loadR_eq (sz : Option Nat) (x : AX) (T : Tmps) (s : St) : op_loadR sz x T s = op_load sz x T s := by unfold op_loadR op_load; simp only [hiddenR_eq, memNR_eq, ltakeR_eq, ldropR_eq, llenR_eq, lgetR_eq, oneR_eq, allOneR_eq, overR_eq, repR_eq, nlenR_eq, ntakeR_eq, ndropR_eq, ngetR_eq, ofBytesR_eq, bytesOfR_eq, noteAllR_eq, evPartsR_eq, evsR_eq, fillR_eq, strEqR_eq, getR_eq, putR_eq, cellsR_eq, appR_eq, St.getS_eq, St.noteS_eq, St.setS_eq, St.killS_eq, St.newS_eq, St.cellsS_eq, sliceR_eq, partR_eq, binStrR_eq, binAR_eq, cleanR_eq, firstAR_eq, lenAR_eq, appendNewR_eq, appendAR_eq, sliceStrR_eq, op_newR_eq, op_boxR_eq, op_buildR_eq, op_buildSR_eq] <;> rfl

noncomputable def op_storeR (sz : Nat) (x : AX) (v : AX) (T : Tmps) (s : St) : Out := (match ev T x with
    | .ptr id off => (match s.cellsS id with
      | some (c, el, fz) =>
        let w := (cellsR (ev T v))
        (match Nat.beq (llenR w) sz with
        | true => (match overR c off w with
          | some c' => some (.val .undef, s.setS id (.cells c' el fz))
          | none => none)
        | false => none)
      | none => none)
    | _ => none)

theorem op_storeR_eq (sz : Nat) (x : AX) (v : AX) (T : Tmps) (s : St) : op_storeR sz x v T s = op_store sz x v T s := by unfold op_storeR op_store; simp only [hiddenR_eq, memNR_eq, ltakeR_eq, ldropR_eq, llenR_eq, lgetR_eq, oneR_eq, allOneR_eq, overR_eq, repR_eq, nlenR_eq, ntakeR_eq, ndropR_eq, ngetR_eq, ofBytesR_eq, bytesOfR_eq, noteAllR_eq, evPartsR_eq, evsR_eq, fillR_eq, strEqR_eq, getR_eq, putR_eq, cellsR_eq, appR_eq, St.getS_eq, St.noteS_eq, St.setS_eq, St.killS_eq, St.newS_eq, St.cellsS_eq, sliceR_eq, partR_eq, binStrR_eq, binAR_eq, cleanR_eq, firstAR_eq, lenAR_eq, appendNewR_eq, appendAR_eq, sliceStrR_eq, op_newR_eq, op_boxR_eq, op_buildR_eq, op_buildSR_eq, op_loadR_eq] <;> rfl

noncomputable def op_binR (op : BinOp) (x : AX) (y : AX) (T : Tmps) (s : St) : Out := val? (binAR op (ev T x) (ev T y)) s

theorem op_binR_eq (op : BinOp) (x : AX) (y : AX) (T : Tmps) (s : St) : op_binR op x y T s = op_bin op x y T s := by unfold op_binR op_bin; simp only [hiddenR_eq, memNR_eq, ltakeR_eq, ldropR_eq, llenR_eq, lgetR_eq, oneR_eq, allOneR_eq, overR_eq, repR_eq, nlenR_eq, ntakeR_eq, ndropR_eq, ngetR_eq, ofBytesR_eq, bytesOfR_eq, noteAllR_eq, evPartsR_eq, evsR_eq, fillR_eq, strEqR_eq, getR_eq, putR_eq, cellsR_eq, appR_eq, St.getS_eq, St.noteS_eq, St.setS_eq, St.killS_eq, St.newS_eq, St.cellsS_eq, sliceR_eq, partR_eq, binStrR_eq, binAR_eq, cleanR_eq, firstAR_eq, lenAR_eq, appendNewR_eq, appendAR_eq, sliceStrR_eq, op_newR_eq, op_boxR_eq, op_buildR_eq, op_buildSR_eq, op_loadR_eq, op_storeR_eq] <;> rfl

noncomputable def op_convR (c : CvK) (x : AX) (T : Tmps) (s : St) : Out := (match c, ev T x with
    | .int k, .int _ n => val (.int k (wrapA k n)) s
    | .same, .str b => val (.str b) s
    | .toStr, .nilsl => val (.str []) s
    | .toStr, .sl id off len cap => (match firstAR s 1 len (.sl id off len cap) with
      | some c => (match bytesOfR c with
        | some b => val (.str b) s
        | none => none)
      | none => none)
    | .toStr, .slo id off len e => (match firstAR s 1 len (.slo id off len e) with
      | some c => (match bytesOfR c with
        | some b => val (.str b) s
        | none => none)
      | none => none)
    | .toBytes elem, .str b => (match Nat.blt s.next big, Nat.blt (nlenR b) big with
      | true, true => val (.slo s.next 0 (nlenR b) 1) (s.newS (.cells (ofBytesR b) elem true))
      | _, _ => none)
    | .mark, .sl id off len cap => (match s.cellsS id with
      | some (c, el, _) => val (.sl id off len cap) (s.setS id (.cells c el true))
      | none => none)
    | .mark, .slo id off len e => (match s.cellsS id with
      | some (c, el, _) => val (.slo id off len e) (s.setS id (.cells c el true))
      | none => none)
    | .toRaw sz, .ptr id off => (match Nat.beq sz 0, s.cellsS id with
      | false, some (c, _, _) => (match Nat.blt off (llenR c) with
        | true => val (.ptr id off) s
        | false => none)
      | _, _ => none)
    | .fromRaw u sz, .ptr id 0 => (match s.cellsS id with
      | some (c, el, _) => (match Nat.beq el u, Nat.beq (llenR c) sz, Nat.beq sz 0 with
        | true, true, false => val (.ptr id 0) s
        | _, _, _ => none)
      | none => none)
    | _, _ => none)

theorem op_convR_eq (c : CvK) (x : AX) (T : Tmps) (s : St) : op_convR c x T s = op_conv c x T s := by unfold op_convR op_conv; simp only [hiddenR_eq, memNR_eq, ltakeR_eq, ldropR_eq, llenR_eq, lgetR_eq, oneR_eq, allOneR_eq, overR_eq, repR_eq, nlenR_eq, ntakeR_eq, ndropR_eq, ngetR_eq, ofBytesR_eq, bytesOfR_eq, noteAllR_eq, evPartsR_eq, evsR_eq, fillR_eq, strEqR_eq, getR_eq, putR_eq, cellsR_eq, appR_eq, St.getS_eq, St.noteS_eq, St.setS_eq, St.killS_eq, St.newS_eq, St.cellsS_eq, sliceR_eq, partR_eq, binStrR_eq, binAR_eq, cleanR_eq, firstAR_eq, lenAR_eq, appendNewR_eq, appendAR_eq, sliceStrR_eq, op_newR_eq, op_boxR_eq, op_buildR_eq, op_buildSR_eq, op_loadR_eq, op_storeR_eq, op_binR_eq] <;> rfl

noncomputable def op_mkfnR (fn : Fn) (a : List AX) (b : List AX) (T : Tmps) (s : St) : Out := val (.func fn (evsR T a) (evsR T b)) s

theorem op_mkfnR_eq (fn : Fn) (a : List AX) (b : List AX) (T : Tmps) (s : St) : op_mkfnR fn a b T s = op_mkfn fn a b T s := by unfold op_mkfnR op_mkfn; simp only [hiddenR_eq, memNR_eq, ltakeR_eq, ldropR_eq, llenR_eq, lgetR_eq, oneR_eq, allOneR_eq, overR_eq, repR_eq, nlenR_eq, ntakeR_eq, ndropR_eq, ngetR_eq, ofBytesR_eq, bytesOfR_eq, noteAllR_eq, evPartsR_eq, evsR_eq, fillR_eq, strEqR_eq, getR_eq, putR_eq, cellsR_eq, appR_eq, St.getS_eq, St.noteS_eq, St.setS_eq, St.killS_eq, St.newS_eq, St.cellsS_eq, sliceR_eq, partR_eq, binStrR_eq, binAR_eq, cleanR_eq, firstAR_eq, lenAR_eq, appendNewR_eq, appendAR_eq, sliceStrR_eq, op_newR_eq, op_boxR_eq, op_buildR_eq, op_buildSR_eq, op_loadR_eq, op_storeR_eq, op_binR_eq, op_convR_eq] <;> rfl

noncomputable def op_mkmapR (T : Tmps) (s : St) : Out := (match Nat.blt s.next big with
    | true => val (.map s.next) (s.newS (.map []))
    | false => none)

theorem op_mkmapR_eq (T : Tmps) (s : St) : op_mkmapR T s = op_mkmap T s := by unfold op_mkmapR op_mkmap; simp only [hiddenR_eq, memNR_eq, ltakeR_eq, ldropR_eq, llenR_eq, lgetR_eq, oneR_eq, allOneR_eq, overR_eq, repR_eq, nlenR_eq, ntakeR_eq, ndropR_eq, ngetR_eq, ofBytesR_eq, bytesOfR_eq, noteAllR_eq, evPartsR_eq, evsR_eq, fillR_eq, strEqR_eq, getR_eq, putR_eq, cellsR_eq, appR_eq, St.getS_eq, St.noteS_eq, St.setS_eq, St.killS_eq, St.newS_eq, St.cellsS_eq, sliceR_eq, partR_eq, binStrR_eq, binAR_eq, cleanR_eq, firstAR_eq, lenAR_eq, appendNewR_eq, appendAR_eq, sliceStrR_eq, op_newR_eq, op_boxR_eq, op_buildR_eq, op_buildSR_eq, op_loadR_eq, op_storeR_eq, op_binR_eq, op_convR_eq, op_mkfnR_eq] <;> rfl

noncomputable def op_mkslR (elem : Nat) (bytes : Nat) (esz : Nat) (zero : List AV) (l : AX) (c : AX) (T : Tmps) (s : St) : Out := (match natOf (ev T l), natOf (ev T c) with
    | some l, some c => (match Nat.ble l c, Nat.ble (c * 4096) big, Nat.ble bytes 4096, Nat.blt s.next big with
      | true, true, true, true => (match Nat.beq (llenR zero) esz with
        | true => val (.sl s.next 0 l c) (s.newS (.cells (repR c zero) elem false))
        | false => none)
      | _, _, _, _ => none)
    | _, _ => none)

theorem op_mkslR_eq (elem : Nat) (bytes : Nat) (esz : Nat) (zero : List AV) (l : AX) (c : AX) (T : Tmps) (s : St) : op_mkslR elem bytes esz zero l c T s = op_mksl elem bytes esz zero l c T s := by unfold op_mkslR op_mksl; simp only [hiddenR_eq, memNR_eq, ltakeR_eq, ldropR_eq, llenR_eq, lgetR_eq, oneR_eq, allOneR_eq, overR_eq, repR_eq, nlenR_eq, ntakeR_eq, ndropR_eq, ngetR_eq, ofBytesR_eq, bytesOfR_eq, noteAllR_eq, evPartsR_eq, evsR_eq, fillR_eq, strEqR_eq, getR_eq, putR_eq, cellsR_eq, appR_eq, St.getS_eq, St.noteS_eq, St.setS_eq, St.killS_eq, St.newS_eq, St.cellsS_eq, sliceR_eq, partR_eq, binStrR_eq, binAR_eq, cleanR_eq, firstAR_eq, lenAR_eq, appendNewR_eq, appendAR_eq, sliceStrR_eq, op_newR_eq, op_boxR_eq, op_buildR_eq, op_buildSR_eq, op_loadR_eq, op_storeR_eq, op_binR_eq, op_convR_eq, op_mkfnR_eq, op_mkmapR_eq] <;> rfl

noncomputable def op_slStrR (x : AX) (lo : Option AX) (hi : Option AX) (T : Tmps) (s : St) : Out := (match ev T x with
    | .str b => (match bound? hi T (nlenR b) (nlenR b) with
      | some h => (match bound? lo T 0 h with
        | some l => val (sliceStrR b l h) s
        | none => none)
      | none => none)
    | _ => none)

theorem op_slStrR_eq (x : AX) (lo : Option AX) (hi : Option AX) (T : Tmps) (s : St) : op_slStrR x lo hi T s = op_slStr x lo hi T s := by unfold op_slStrR op_slStr; simp only [hiddenR_eq, memNR_eq, ltakeR_eq, ldropR_eq, llenR_eq, lgetR_eq, oneR_eq, allOneR_eq, overR_eq, repR_eq, nlenR_eq, ntakeR_eq, ndropR_eq, ngetR_eq, ofBytesR_eq, bytesOfR_eq, noteAllR_eq, evPartsR_eq, evsR_eq, fillR_eq, strEqR_eq, getR_eq, putR_eq, cellsR_eq, appR_eq, St.getS_eq, St.noteS_eq, St.setS_eq, St.killS_eq, St.newS_eq, St.cellsS_eq, sliceR_eq, partR_eq, binStrR_eq, binAR_eq, cleanR_eq, firstAR_eq, lenAR_eq, appendNewR_eq, appendAR_eq, sliceStrR_eq, op_newR_eq, op_boxR_eq, op_buildR_eq, op_buildSR_eq, op_loadR_eq, op_storeR_eq, op_binR_eq, op_convR_eq, op_mkfnR_eq, op_mkmapR_eq, op_mkslR_eq] <;> rfl

noncomputable def op_fieldR (sz : Option Nat) (off : Nat) (x : AX) (T : Tmps) (s : St) : Out := (match ev T x with
    | .agg c => val? (partR sz c off) s
    | _ => none)

theorem op_fieldR_eq (sz : Option Nat) (off : Nat) (x : AX) (T : Tmps) (s : St) : op_fieldR sz off x T s = op_field sz off x T s := by unfold op_fieldR op_field; simp only [hiddenR_eq, memNR_eq, ltakeR_eq, ldropR_eq, llenR_eq, lgetR_eq, oneR_eq, allOneR_eq, overR_eq, repR_eq, nlenR_eq, ntakeR_eq, ndropR_eq, ngetR_eq, ofBytesR_eq, bytesOfR_eq, noteAllR_eq, evPartsR_eq, evsR_eq, fillR_eq, strEqR_eq, getR_eq, putR_eq, cellsR_eq, appR_eq, St.getS_eq, St.noteS_eq, St.setS_eq, St.killS_eq, St.newS_eq, St.cellsS_eq, sliceR_eq, partR_eq, binStrR_eq, binAR_eq, cleanR_eq, firstAR_eq, lenAR_eq, appendNewR_eq, appendAR_eq, sliceStrR_eq, op_newR_eq, op_boxR_eq, op_buildR_eq, op_buildSR_eq, op_loadR_eq, op_storeR_eq, op_binR_eq, op_convR_eq, op_mkfnR_eq, op_mkmapR_eq, op_mkslR_eq, op_slStrR_eq] <;> rfl

noncomputable def op_indexAR (n : Nat) (esz : Nat) (sz : Option Nat) (x : AX) (i : AX) (T : Tmps) (s : St) : Out := (match ev T x, natOf (ev T i) with
    | .agg c, some i => (match Nat.blt i n with
      | true => val? (partR sz c (i * esz)) s
      | false => none)
    | _, _ => none)

theorem op_indexAR_eq (n : Nat) (esz : Nat) (sz : Option Nat) (x : AX) (i : AX) (T : Tmps) (s : St) : op_indexAR n esz sz x i T s = op_indexA n esz sz x i T s := by unfold op_indexAR op_indexA; simp only [hiddenR_eq, memNR_eq, ltakeR_eq, ldropR_eq, llenR_eq, lgetR_eq, oneR_eq, allOneR_eq, overR_eq, repR_eq, nlenR_eq, ntakeR_eq, ndropR_eq, ngetR_eq, ofBytesR_eq, bytesOfR_eq, noteAllR_eq, evPartsR_eq, evsR_eq, fillR_eq, strEqR_eq, getR_eq, putR_eq, cellsR_eq, appR_eq, St.getS_eq, St.noteS_eq, St.setS_eq, St.killS_eq, St.newS_eq, St.cellsS_eq, sliceR_eq, partR_eq, binStrR_eq, binAR_eq, cleanR_eq, firstAR_eq, lenAR_eq, appendNewR_eq, appendAR_eq, sliceStrR_eq, op_newR_eq, op_boxR_eq, op_buildR_eq, op_buildSR_eq, op_loadR_eq, op_storeR_eq, op_binR_eq, op_convR_eq, op_mkfnR_eq, op_mkmapR_eq, op_mkslR_eq, op_slStrR_eq, op_fieldR_eq] <;> rfl

noncomputable def op_indexSR (x : AX) (i : AX) (T : Tmps) (s : St) : Out := (match ev T x, natOf (ev T i) with
    | .str b, some i => (match ngetR b i with
      | some c => val (.int .u8 (.ofNat c)) s
      | none => none)
    | _, _ => none)

theorem op_indexSR_eq (x : AX) (i : AX) (T : Tmps) (s : St) : op_indexSR x i T s = op_indexS x i T s := by unfold op_indexSR op_indexS; simp only [hiddenR_eq, memNR_eq, ltakeR_eq, ldropR_eq, llenR_eq, lgetR_eq, oneR_eq, allOneR_eq, overR_eq, repR_eq, nlenR_eq, ntakeR_eq, ndropR_eq, ngetR_eq, ofBytesR_eq, bytesOfR_eq, noteAllR_eq, evPartsR_eq, evsR_eq, fillR_eq, strEqR_eq, getR_eq, putR_eq, cellsR_eq, appR_eq, St.getS_eq, St.noteS_eq, St.setS_eq, St.killS_eq, St.newS_eq, St.cellsS_eq, sliceR_eq, partR_eq, binStrR_eq, binAR_eq, cleanR_eq, firstAR_eq, lenAR_eq, appendNewR_eq, appendAR_eq, sliceStrR_eq, op_newR_eq, op_boxR_eq, op_buildR_eq, op_buildSR_eq, op_loadR_eq, op_storeR_eq, op_binR_eq, op_convR_eq, op_mkfnR_eq, op_mkmapR_eq, op_mkslR_eq, op_slStrR_eq, op_fieldR_eq, op_indexAR_eq] <;> rfl

noncomputable def op_extractR (x : AX) (i : Nat) (T : Tmps) (s : St) : Out := (match ev T x with
    | .tup l => val? (lgetR l i) s
    | _ => none)

theorem op_extractR_eq (x : AX) (i : Nat) (T : Tmps) (s : St) : op_extractR x i T s = op_extract x i T s := by unfold op_extractR op_extract; simp only [hiddenR_eq, memNR_eq, ltakeR_eq, ldropR_eq, llenR_eq, lgetR_eq, oneR_eq, allOneR_eq, overR_eq, repR_eq, nlenR_eq, ntakeR_eq, ndropR_eq, ngetR_eq, ofBytesR_eq, bytesOfR_eq, noteAllR_eq, evPartsR_eq, evsR_eq, fillR_eq, strEqR_eq, getR_eq, putR_eq, cellsR_eq, appR_eq, St.getS_eq, St.noteS_eq, St.setS_eq, St.killS_eq, St.newS_eq, St.cellsS_eq, sliceR_eq, partR_eq, binStrR_eq, binAR_eq, cleanR_eq, firstAR_eq, lenAR_eq, appendNewR_eq, appendAR_eq, sliceStrR_eq, op_newR_eq, op_boxR_eq, op_buildR_eq, op_buildSR_eq, op_loadR_eq, op_storeR_eq, op_binR_eq, op_convR_eq, op_mkfnR_eq, op_mkmapR_eq, op_mkslR_eq, op_slStrR_eq, op_fieldR_eq, op_indexAR_eq, op_indexSR_eq] <;> rfl

noncomputable def op_callR (f : AX) (args : List AX) (T : Tmps) (s : St) : Out := (match ev T f with
    | .func (.func g) first captured => some (.enter g (first ++ evsR T args ++ captured), s)
    | .func (.yield l) [] [] => some (.round l (evsR T args), s)
    | _ => none)

theorem op_callR_eq (f : AX) (args : List AX) (T : Tmps) (s : St) : op_callR f args T s = op_call f args T s := by unfold op_callR op_call; simp only [hiddenR_eq, memNR_eq, ltakeR_eq, ldropR_eq, llenR_eq, lgetR_eq, oneR_eq, allOneR_eq, overR_eq, repR_eq, nlenR_eq, ntakeR_eq, ndropR_eq, ngetR_eq, ofBytesR_eq, bytesOfR_eq, noteAllR_eq, evPartsR_eq, evsR_eq, fillR_eq, strEqR_eq, getR_eq, putR_eq, cellsR_eq, appR_eq, St.getS_eq, St.noteS_eq, St.setS_eq, St.killS_eq, St.newS_eq, St.cellsS_eq, sliceR_eq, partR_eq, binStrR_eq, binAR_eq, cleanR_eq, firstAR_eq, lenAR_eq, appendNewR_eq, appendAR_eq, sliceStrR_eq, op_newR_eq, op_boxR_eq, op_buildR_eq, op_buildSR_eq, op_loadR_eq, op_storeR_eq, op_binR_eq, op_convR_eq, op_mkfnR_eq, op_mkmapR_eq, op_mkslR_eq, op_slStrR_eq, op_fieldR_eq, op_indexAR_eq, op_indexSR_eq, op_extractR_eq] <;> rfl

noncomputable def op_appendR (elem : Nat) (esz : Nat) (bytes : Nat) (x : AX) (y : AX) (T : Tmps) (s : St) : Out :=
    let y := ev T y
    (match lenAR y with
    | some n => (match firstAR s esz n y with
      | some new => (match appendAR s elem esz bytes (ev T x) new n with
        | some (v, s') => val v s'
        | none => none)
      | none => none)
    | none => none)

theorem op_appendR_eq (elem : Nat) (esz : Nat) (bytes : Nat) (x : AX) (y : AX) (T : Tmps) (s : St) : op_appendR elem esz bytes x y T s = op_append elem esz bytes x y T s := by unfold op_appendR op_append; simp only [hiddenR_eq, memNR_eq, ltakeR_eq, ldropR_eq, llenR_eq, lgetR_eq, oneR_eq, allOneR_eq, overR_eq, repR_eq, nlenR_eq, ntakeR_eq, ndropR_eq, ngetR_eq, ofBytesR_eq, bytesOfR_eq, noteAllR_eq, evPartsR_eq, evsR_eq, fillR_eq, strEqR_eq, getR_eq, putR_eq, cellsR_eq, appR_eq, St.getS_eq, St.noteS_eq, St.setS_eq, St.killS_eq, St.newS_eq, St.cellsS_eq, sliceR_eq, partR_eq, binStrR_eq, binAR_eq, cleanR_eq, firstAR_eq, lenAR_eq, appendNewR_eq, appendAR_eq, sliceStrR_eq, op_newR_eq, op_boxR_eq, op_buildR_eq, op_buildSR_eq, op_loadR_eq, op_storeR_eq, op_binR_eq, op_convR_eq, op_mkfnR_eq, op_mkmapR_eq, op_mkslR_eq, op_slStrR_eq, op_fieldR_eq, op_indexAR_eq, op_indexSR_eq, op_extractR_eq, op_callR_eq] <;> rfl

noncomputable def op_appendZR (elem : Nat) (esz : Nat) (bytes : Nat) (zero : List AV) (x : AX) (n : AX) (T : Tmps) (s : St) : Out := (match natOf (ev T n), Nat.beq (llenR zero) esz with
    | some n, true => (match Nat.ble (n * 4096) big, appendAR s elem esz bytes (ev T x) (repR n zero) n with
      | true, some (v, s') => val v s'
      | _, _ => none)
    | _, _ => none)

theorem op_appendZR_eq (elem : Nat) (esz : Nat) (bytes : Nat) (zero : List AV) (x : AX) (n : AX) (T : Tmps) (s : St) : op_appendZR elem esz bytes zero x n T s = op_appendZ elem esz bytes zero x n T s := by unfold op_appendZR op_appendZ; simp only [hiddenR_eq, memNR_eq, ltakeR_eq, ldropR_eq, llenR_eq, lgetR_eq, oneR_eq, allOneR_eq, overR_eq, repR_eq, nlenR_eq, ntakeR_eq, ndropR_eq, ngetR_eq, ofBytesR_eq, bytesOfR_eq, noteAllR_eq, evPartsR_eq, evsR_eq, fillR_eq, strEqR_eq, getR_eq, putR_eq, cellsR_eq, appR_eq, St.getS_eq, St.noteS_eq, St.setS_eq, St.killS_eq, St.newS_eq, St.cellsS_eq, sliceR_eq, partR_eq, binStrR_eq, binAR_eq, cleanR_eq, firstAR_eq, lenAR_eq, appendNewR_eq, appendAR_eq, sliceStrR_eq, op_newR_eq, op_boxR_eq, op_buildR_eq, op_buildSR_eq, op_loadR_eq, op_storeR_eq, op_binR_eq, op_convR_eq, op_mkfnR_eq, op_mkmapR_eq, op_mkslR_eq, op_slStrR_eq, op_fieldR_eq, op_indexAR_eq, op_indexSR_eq, op_extractR_eq, op_callR_eq, op_appendR_eq] <;> rfl

noncomputable def op_copyR (esz : Nat) (d : AX) (x : AX) (T : Tmps) (s : St) : Out :=
    let x := ev T x
    let d := ev T d
    (match lenAR x, lenAR d with
    | some n, some m =>
      let n := minN n m
      (match firstAR s esz n x with
      | some new => (match d with
        | .nilsl => val (goI n) s
        | .sl id off _ _ => (match s.cellsS id with
          | some (c, el, fz) => (match overR c off new with
            | some c' => val (goI n) (s.setS id (.cells c' el fz))
            | none => none)
          | none => none)
        | .slo id off _ _ => (match n, s.cellsS id with
          | 0, _ => val (goI 0) s
          | _, some (c, el, fz) => (match overR c off new with
            | some c' => val (goI n) (s.setS id (.cells c' el fz))
            | none => none)
          | _, none => none)
        | _ => none)
      | none => none)
    | _, _ => none)

theorem op_copyR_eq (esz : Nat) (d : AX) (x : AX) (T : Tmps) (s : St) : op_copyR esz d x T s = op_copy esz d x T s := by unfold op_copyR op_copy; simp only [hiddenR_eq, memNR_eq, ltakeR_eq, ldropR_eq, llenR_eq, lgetR_eq, oneR_eq, allOneR_eq, overR_eq, repR_eq, nlenR_eq, ntakeR_eq, ndropR_eq, ngetR_eq, ofBytesR_eq, bytesOfR_eq, noteAllR_eq, evPartsR_eq, evsR_eq, fillR_eq, strEqR_eq, getR_eq, putR_eq, cellsR_eq, appR_eq, St.getS_eq, St.noteS_eq, St.setS_eq, St.killS_eq, St.newS_eq, St.cellsS_eq, sliceR_eq, partR_eq, binStrR_eq, binAR_eq, cleanR_eq, firstAR_eq, lenAR_eq, appendNewR_eq, appendAR_eq, sliceStrR_eq, op_newR_eq, op_boxR_eq, op_buildR_eq, op_buildSR_eq, op_loadR_eq, op_storeR_eq, op_binR_eq, op_convR_eq, op_mkfnR_eq, op_mkmapR_eq, op_mkslR_eq, op_slStrR_eq, op_fieldR_eq, op_indexAR_eq, op_indexSR_eq, op_extractR_eq, op_callR_eq, op_appendR_eq, op_appendZR_eq] <;> rfl

noncomputable def op_lenStrR (x : AX) (T : Tmps) (s : St) : Out := (match ev T x with
    | .str b => val (goI (nlenR b)) s
    | _ => none)

theorem op_lenStrR_eq (x : AX) (T : Tmps) (s : St) : op_lenStrR x T s = op_lenStr x T s := by unfold op_lenStrR op_lenStr; simp only [hiddenR_eq, memNR_eq, ltakeR_eq, ldropR_eq, llenR_eq, lgetR_eq, oneR_eq, allOneR_eq, overR_eq, repR_eq, nlenR_eq, ntakeR_eq, ndropR_eq, ngetR_eq, ofBytesR_eq, bytesOfR_eq, noteAllR_eq, evPartsR_eq, evsR_eq, fillR_eq, strEqR_eq, getR_eq, putR_eq, cellsR_eq, appR_eq, St.getS_eq, St.noteS_eq, St.setS_eq, St.killS_eq, St.newS_eq, St.cellsS_eq, sliceR_eq, partR_eq, binStrR_eq, binAR_eq, cleanR_eq, firstAR_eq, lenAR_eq, appendNewR_eq, appendAR_eq, sliceStrR_eq, op_newR_eq, op_boxR_eq, op_buildR_eq, op_buildSR_eq, op_loadR_eq, op_storeR_eq, op_binR_eq, op_convR_eq, op_mkfnR_eq, op_mkmapR_eq, op_mkslR_eq, op_slStrR_eq, op_fieldR_eq, op_indexAR_eq, op_indexSR_eq, op_extractR_eq, op_callR_eq, op_appendR_eq, op_appendZR_eq, op_copyR_eq] <;> rfl

noncomputable def op_clearSR (esz : Nat) (zero : List AV) (x : AX) (T : Tmps) (s : St) : Out := (match Nat.beq (llenR zero) esz, ev T x with
    | true, .nilsl => val (.tup []) s
    | true, .sl id off n _ => (match n, s.cellsS id with
      | 0, _ => val (.tup []) s
      | n, some (c, el, fz) => (match overR c off (repR n zero) with
        | some c' => val (.tup []) (s.setS id (.cells c' el fz))
        | none => none)
      | _, none => none)
    | true, .slo id off n _ => (match n, s.cellsS id with
      | 0, _ => val (.tup []) s
      | n, some (c, el, fz) => (match overR c off (repR n zero) with
        | some c' => val (.tup []) (s.setS id (.cells c' el fz))
        | none => none)
      | _, none => none)
    | _, _ => none)

theorem op_clearSR_eq (esz : Nat) (zero : List AV) (x : AX) (T : Tmps) (s : St) : op_clearSR esz zero x T s = op_clearS esz zero x T s := by unfold op_clearSR op_clearS; simp only [hiddenR_eq, memNR_eq, ltakeR_eq, ldropR_eq, llenR_eq, lgetR_eq, oneR_eq, allOneR_eq, overR_eq, repR_eq, nlenR_eq, ntakeR_eq, ndropR_eq, ngetR_eq, ofBytesR_eq, bytesOfR_eq, noteAllR_eq, evPartsR_eq, evsR_eq, fillR_eq, strEqR_eq, getR_eq, putR_eq, cellsR_eq, appR_eq, St.getS_eq, St.noteS_eq, St.setS_eq, St.killS_eq, St.newS_eq, St.cellsS_eq, sliceR_eq, partR_eq, binStrR_eq, binAR_eq, cleanR_eq, firstAR_eq, lenAR_eq, appendNewR_eq, appendAR_eq, sliceStrR_eq, op_newR_eq, op_boxR_eq, op_buildR_eq, op_buildSR_eq, op_loadR_eq, op_storeR_eq, op_binR_eq, op_convR_eq, op_mkfnR_eq, op_mkmapR_eq, op_mkslR_eq, op_slStrR_eq, op_fieldR_eq, op_indexAR_eq, op_indexSR_eq, op_extractR_eq, op_callR_eq, op_appendR_eq, op_appendZR_eq, op_copyR_eq, op_lenStrR_eq] <;> rfl

noncomputable def op_ustrR (u8 : Nat) (p : AX) (n : AX) (T : Tmps) (s : St) : Out := (match ev T p, natOf (ev T n) with
    | .nilptr, some 0 => val (.str []) s
    | .ptr _ _, some 0 => val (.str []) s
    | .ptr id off, some n => (match s.cellsS id with
      | some (c, el, _) => (match Nat.beq el u8 && Nat.blt n big, sliceR c off n with
        | true, some r => (match bytesOfR r with
          | some b => val (.str b) (s.killS id)
          | none => none)
        | _, _ => none)
      | none => none)
    | _, _ => none)

theorem op_ustrR_eq (u8 : Nat) (p : AX) (n : AX) (T : Tmps) (s : St) : op_ustrR u8 p n T s = op_ustr u8 p n T s := by unfold op_ustrR op_ustr; simp only [hiddenR_eq, memNR_eq, ltakeR_eq, ldropR_eq, llenR_eq, lgetR_eq, oneR_eq, allOneR_eq, overR_eq, repR_eq, nlenR_eq, ntakeR_eq, ndropR_eq, ngetR_eq, ofBytesR_eq, bytesOfR_eq, noteAllR_eq, evPartsR_eq, evsR_eq, fillR_eq, strEqR_eq, getR_eq, putR_eq, cellsR_eq, appR_eq, St.getS_eq, St.noteS_eq, St.setS_eq, St.killS_eq, St.newS_eq, St.cellsS_eq, sliceR_eq, partR_eq, binStrR_eq, binAR_eq, cleanR_eq, firstAR_eq, lenAR_eq, appendNewR_eq, appendAR_eq, sliceStrR_eq, op_newR_eq, op_boxR_eq, op_buildR_eq, op_buildSR_eq, op_loadR_eq, op_storeR_eq, op_binR_eq, op_convR_eq, op_mkfnR_eq, op_mkmapR_eq, op_mkslR_eq, op_slStrR_eq, op_fieldR_eq, op_indexAR_eq, op_indexSR_eq, op_extractR_eq, op_callR_eq, op_appendR_eq, op_appendZR_eq, op_copyR_eq, op_lenStrR_eq, op_clearSR_eq] <;> rfl

noncomputable def opAR (o : AOp) (T : Tmps) (s : St) : Out :=
  match o with
  | .mv x => op_mv x T s
  | .pick c a b => op_pick c a b T s
  | .new elem zero => op_newR elem zero T s
  | .box elem x => op_boxR elem x T s
  | .build zero parts => op_buildR zero parts T s
  | .buildS elem len zero parts => op_buildSR elem len zero parts T s
  | .load sz x => op_loadR sz x T s
  | .store sz x v => op_storeR sz x v T s
  | .nilck x => op_nilck x T s
  | .bin op x y => op_binR op x y T s
  | .eq neg t x y => op_eq neg t x y T s
  | .un op x => op_un op x T s
  | .conv c x => op_convR c x T s
  | .s2ap n x => op_s2ap n x T s
  | .mkfn fn a b => op_mkfnR fn a b T s
  | .mkmap  => op_mkmapR  T s
  | .mksl elem bytes esz zero l c => op_mkslR elem bytes esz zero l c T s
  | .slStr x lo hi => op_slStrR x lo hi T s
  | .slSl esz x lo hi mx => op_slSl esz x lo hi mx T s
  | .slArr n esz x lo hi mx => op_slArr n esz x lo hi mx T s
  | .faddr off x => op_faddr off x T s
  | .field sz off x => op_fieldR sz off x T s
  | .iaddrA n esz x i => op_iaddrA n esz x i T s
  | .iaddrS esz x i => op_iaddrS esz x i T s
  | .indexA n esz sz x i => op_indexAR n esz sz x i T s
  | .indexS x i => op_indexSR x i T s
  | .lookup kt zero x i ok => op_lookup kt zero x i ok T s
  | .mapup kt m k v => op_mapup kt m k v T s
  | .extract x i => op_extractR x i T s
  | .call f args => op_callR f args T s
  | .append elem esz bytes x y => op_appendR elem esz bytes x y T s
  | .appendZ elem esz bytes zero x n => op_appendZR elem esz bytes zero x n T s
  | .copy esz d x => op_copyR esz d x T s
  | .lenS x => op_lenS x T s
  | .lenStr x => op_lenStrR x T s
  | .lenA n => op_lenA n T s
  | .lenM x => op_lenM x T s
  | .capS x => op_capS x T s
  | .clearM x => op_clearM x T s
  | .clearS esz zero x => op_clearSR esz zero x T s
  | .delete kt m k => op_delete kt m k T s
  | .min2 x y => op_min2 x y T s
  | .max2 x y => op_max2 x y T s
  | .sdata x => op_sdata x T s
  | .ustr u8 p n => op_ustrR u8 p n T s
  | .bad => none

theorem opAR_eq (o : AOp) (T : Tmps) (s : St) : opAR o T s = opA o T s := by cases o <;> simp only [opAR, opA, op_newR_eq, op_boxR_eq, op_buildR_eq, op_buildSR_eq, op_loadR_eq, op_storeR_eq, op_binR_eq, op_convR_eq, op_mkfnR_eq, op_mkmapR_eq, op_mkslR_eq, op_slStrR_eq, op_fieldR_eq, op_indexAR_eq, op_indexSR_eq, op_extractR_eq, op_callR_eq, op_appendR_eq, op_appendZR_eq, op_copyR_eq, op_lenStrR_eq, op_clearSR_eq, op_ustrR_eq]


end Go.Qa
end

/- The fast machine: the abstract run once more, by closures that the kernel makes once and keeps, in a form that it reckons quickly: every definition is a recursor's, every value is looked at before it is handed on. -/
section
namespace Go.Qa

abbrev RF := N16 (N16 AV)
abbrev KV := AV → St → Bool
abbrev FCall := Nat → List AV → St → KV → Bool

/-! ### Looking now -/
noncomputable def litN (n : Nat) (k : Nat → Bool) : Bool := @Nat.rec (fun _ => Bool) (k Nat.zero) (fun m _ => k (Nat.succ m)) n
noncomputable def forceL {α : Type} (l : List α) (k : List α → Bool) : Bool := @List.rec α (fun _ => Bool) (k []) (fun a t _ => k (a :: t)) l
noncomputable def forceT (t : Tr AO) (k : Tr AO → Bool) : Bool := @Tr.rec AO (fun _ => Bool) (k .nil) (fun v l r _ _ => k (.node v l r)) t
noncomputable def onSt (s : St) (k : Tr AO → Nat → Nat → List Nat → List (Nat × Nat) → Bool) : Bool := @St.rec (fun _ => Bool) (fun h n b w d => k h n b w d) s
noncomputable def normS (s : St) (k : St → Bool) : Bool := onSt s fun h n b w d => forceT h fun h => litN n fun n => litN b fun b => forceL w fun w => forceL d fun d => k ⟨h, n, b, w, d⟩
noncomputable def onBool (v : AV) (f : Bool → Bool) : Bool := @AV.rec (fun _ => Bool) (fun _ => Bool) (fun b => f b) (fun _ _ => false) (fun _ => false) false (fun _ _ => false) false (fun _ _ _ _ => false) (fun _ _ _ _ => false) false (fun _ => false) (fun _ _ _ _ _ => false) false false (fun _ _ => false) (fun _ _ => false) false (fun _ _ _ _ => false) v
noncomputable def onBoolD (v : AV) (fb : Bool) (f : Bool → Bool) : Bool := @AV.rec (fun _ => Bool) (fun _ => Bool) (fun b => f b) (fun _ _ => fb) (fun _ => fb) fb (fun _ _ => fb) fb (fun _ _ _ _ => fb) (fun _ _ _ _ => fb) fb (fun _ => fb) (fun _ _ _ _ _ => fb) fb fb (fun _ _ => fb) (fun _ _ => fb) fb (fun _ _ _ _ => fb) v
noncomputable def onInt (v : AV) (f : IntKind → Int → Bool) : Bool := @AV.rec (fun _ => Bool) (fun _ => Bool) (fun _ => false) (fun k n => f k n) (fun _ => false) false (fun _ _ => false) false (fun _ _ _ _ => false) (fun _ _ _ _ => false) false (fun _ => false) (fun _ _ _ _ _ => false) false false (fun _ _ => false) (fun _ _ => false) false (fun _ _ _ _ => false) v
noncomputable def onIntD (v : AV) (fb : Bool) (f : IntKind → Int → Bool) : Bool := @AV.rec (fun _ => Bool) (fun _ => Bool) (fun _ => fb) (fun k n => f k n) (fun _ => fb) fb (fun _ _ => fb) fb (fun _ _ _ _ => fb) (fun _ _ _ _ => fb) fb (fun _ => fb) (fun _ _ _ _ _ => fb) fb fb (fun _ _ => fb) (fun _ _ => fb) fb (fun _ _ _ _ => fb) v
noncomputable def onPtr (v : AV) (f : Nat → Nat → Bool) : Bool := @AV.rec (fun _ => Bool) (fun _ => Bool) (fun _ => false) (fun _ _ => false) (fun _ => false) false (fun i o => f i o) false (fun _ _ _ _ => false) (fun _ _ _ _ => false) false (fun _ => false) (fun _ _ _ _ _ => false) false false (fun _ _ => false) (fun _ _ => false) false (fun _ _ _ _ => false) v
noncomputable def onTup (v : AV) (f : List AV → Bool) : Bool := @AV.rec (fun _ => Bool) (fun _ => Bool) (fun _ => false) (fun _ _ => false) (fun _ => false) false (fun _ _ => false) false (fun _ _ _ _ => false) (fun _ _ _ _ => false) false (fun _ => false) (fun _ _ _ _ _ => false) false false (fun _ _ => false) (fun l _ => f l) false (fun _ _ _ _ => false) v
noncomputable def onNil (v : AV) (t e : Bool) : Bool := @AV.rec (fun _ => Bool) (fun _ => Bool) (fun _ => e) (fun _ _ => e) (fun _ => e) t (fun _ _ => e) e (fun _ _ _ _ => e) (fun _ _ _ _ => e) e (fun _ => e) (fun _ _ _ _ _ => e) e e (fun _ _ => e) (fun _ _ => e) e (fun _ _ _ _ => e) v
noncomputable def onPtrD (v : AV) (e t : Bool) : Bool := @AV.rec (fun _ => Bool) (fun _ => Bool) (fun _ => e) (fun _ _ => e) (fun _ => e) e (fun _ _ => t) e (fun _ _ _ _ => e) (fun _ _ _ _ => e) e (fun _ => e) (fun _ _ _ _ _ => e) e e (fun _ _ => e) (fun _ _ => e) e (fun _ _ _ _ => e) v
noncomputable def onNilS (v : AV) (t e : Bool) : Bool := @AV.rec (fun _ => Bool) (fun _ => Bool) (fun _ => e) (fun _ _ => e) (fun _ => e) e (fun _ _ => e) t (fun _ _ _ _ => e) (fun _ _ _ _ => e) e (fun _ => e) (fun _ _ _ _ _ => e) e e (fun _ _ => e) (fun _ _ => e) e (fun _ _ _ _ => e) v
noncomputable def onSl (v : AV) (f : Nat → Nat → Nat → Bool) : Bool := @AV.rec (fun _ => Bool) (fun _ => Bool) (fun _ => false) (fun _ _ => false) (fun _ => false) false (fun _ _ => false) false (fun i o l _ => f i o l) (fun i o l _ => f i o l) false (fun _ => false) (fun _ _ _ _ _ => false) false false (fun _ _ => false) (fun _ _ => false) false (fun _ _ _ _ => false) v
noncomputable def onSlD (v : AV) (e : Bool) (f : Nat → Nat → Nat → Bool) : Bool := @AV.rec (fun _ => Bool) (fun _ => Bool) (fun _ => e) (fun _ _ => e) (fun _ => e) e (fun _ _ => e) e (fun i o l _ => f i o l) (fun i o l _ => f i o l) e (fun _ => e) (fun _ _ _ _ _ => e) e e (fun _ _ => e) (fun _ _ => e) e (fun _ _ _ _ => e) v
noncomputable def onFunc (v : AV) (f : Fn → List AV → List AV → Bool) : Bool := @AV.rec (fun _ => Bool) (fun _ => Bool) (fun _ => false) (fun _ _ => false) (fun _ => false) false (fun _ _ => false) false (fun _ _ _ _ => false) (fun _ _ _ _ => false) false (fun _ => false) (fun fn a b _ _ => f fn a b) false false (fun _ _ => false) (fun _ _ => false) false (fun _ _ _ _ => false) v
noncomputable def onRef (v : AV) (f : AV → Bool) : Bool := @AV.rec (fun _ => Bool) (fun _ => Bool) (fun _ => false) (fun _ _ => false) (fun _ => false) false (fun i o => f (.ptr i o)) false (fun _ _ _ _ => false) (fun _ _ _ _ => false) false (fun _ => false) (fun fn a b _ _ => f (.func fn a b)) false false (fun _ _ => false) (fun _ _ => false) false (fun _ _ _ _ => false) v
noncomputable def fv (v : AV) (f : AV → Bool) : Bool := @AV.rec (fun _ => Bool) (fun _ => Bool) (fun b => f (.bool b)) (fun k n => f (.int k n)) (fun s => f (.str s)) (f .nilptr) (fun i o => f (.ptr i o)) (f .nilsl) (fun i o l c => f (.sl i o l c)) (fun i o l e => f (.slo i o l e)) (f .nilmap) (fun i => f (.map i)) (fun fn a b _ _ => f (.func fn a b)) (f .nilfunc) (f .nilif) (fun l _ => f (.agg l)) (fun l _ => f (.tup l)) false (fun _ _ _ _ => false) v

/-! ### Temporaries -/
structure Sel (α : Type) where
  get : N16 α → α
  put : N16 α → (α → (α → Bool) → Bool) → (N16 α → Bool) → Bool
noncomputable def sel {α : Type} : Nat → Sel α
  | 0 => ⟨fun t => @N16.rec α (fun _ => α) (fun x0 x1 x2 x3 x4 x5 x6 x7 x8 x9 x10 x11 x12 x13 x14 x15 => x0) t, fun t f k => @N16.rec α (fun _ => Bool) (fun x0 x1 x2 x3 x4 x5 x6 x7 x8 x9 x10 x11 x12 x13 x14 x15 => f x0 fun v => k ⟨v, x1, x2, x3, x4, x5, x6, x7, x8, x9, x10, x11, x12, x13, x14, x15⟩) t⟩
  | 1 => ⟨fun t => @N16.rec α (fun _ => α) (fun x0 x1 x2 x3 x4 x5 x6 x7 x8 x9 x10 x11 x12 x13 x14 x15 => x1) t, fun t f k => @N16.rec α (fun _ => Bool) (fun x0 x1 x2 x3 x4 x5 x6 x7 x8 x9 x10 x11 x12 x13 x14 x15 => f x1 fun v => k ⟨x0, v, x2, x3, x4, x5, x6, x7, x8, x9, x10, x11, x12, x13, x14, x15⟩) t⟩
  | 2 => ⟨fun t => @N16.rec α (fun _ => α) (fun x0 x1 x2 x3 x4 x5 x6 x7 x8 x9 x10 x11 x12 x13 x14 x15 => x2) t, fun t f k => @N16.rec α (fun _ => Bool) (fun x0 x1 x2 x3 x4 x5 x6 x7 x8 x9 x10 x11 x12 x13 x14 x15 => f x2 fun v => k ⟨x0, x1, v, x3, x4, x5, x6, x7, x8, x9, x10, x11, x12, x13, x14, x15⟩) t⟩
  | 3 => ⟨fun t => @N16.rec α (fun _ => α) (fun x0 x1 x2 x3 x4 x5 x6 x7 x8 x9 x10 x11 x12 x13 x14 x15 => x3) t, fun t f k => @N16.rec α (fun _ => Bool) (fun x0 x1 x2 x3 x4 x5 x6 x7 x8 x9 x10 x11 x12 x13 x14 x15 => f x3 fun v => k ⟨x0, x1, x2, v, x4, x5, x6, x7, x8, x9, x10, x11, x12, x13, x14, x15⟩) t⟩
  | 4 => ⟨fun t => @N16.rec α (fun _ => α) (fun x0 x1 x2 x3 x4 x5 x6 x7 x8 x9 x10 x11 x12 x13 x14 x15 => x4) t, fun t f k => @N16.rec α (fun _ => Bool) (fun x0 x1 x2 x3 x4 x5 x6 x7 x8 x9 x10 x11 x12 x13 x14 x15 => f x4 fun v => k ⟨x0, x1, x2, x3, v, x5, x6, x7, x8, x9, x10, x11, x12, x13, x14, x15⟩) t⟩
  | 5 => ⟨fun t => @N16.rec α (fun _ => α) (fun x0 x1 x2 x3 x4 x5 x6 x7 x8 x9 x10 x11 x12 x13 x14 x15 => x5) t, fun t f k => @N16.rec α (fun _ => Bool) (fun x0 x1 x2 x3 x4 x5 x6 x7 x8 x9 x10 x11 x12 x13 x14 x15 => f x5 fun v => k ⟨x0, x1, x2, x3, x4, v, x6, x7, x8, x9, x10, x11, x12, x13, x14, x15⟩) t⟩
  | 6 => ⟨fun t => @N16.rec α (fun _ => α) (fun x0 x1 x2 x3 x4 x5 x6 x7 x8 x9 x10 x11 x12 x13 x14 x15 => x6) t, fun t f k => @N16.rec α (fun _ => Bool) (fun x0 x1 x2 x3 x4 x5 x6 x7 x8 x9 x10 x11 x12 x13 x14 x15 => f x6 fun v => k ⟨x0, x1, x2, x3, x4, x5, v, x7, x8, x9, x10, x11, x12, x13, x14, x15⟩) t⟩
  | 7 => ⟨fun t => @N16.rec α (fun _ => α) (fun x0 x1 x2 x3 x4 x5 x6 x7 x8 x9 x10 x11 x12 x13 x14 x15 => x7) t, fun t f k => @N16.rec α (fun _ => Bool) (fun x0 x1 x2 x3 x4 x5 x6 x7 x8 x9 x10 x11 x12 x13 x14 x15 => f x7 fun v => k ⟨x0, x1, x2, x3, x4, x5, x6, v, x8, x9, x10, x11, x12, x13, x14, x15⟩) t⟩
  | 8 => ⟨fun t => @N16.rec α (fun _ => α) (fun x0 x1 x2 x3 x4 x5 x6 x7 x8 x9 x10 x11 x12 x13 x14 x15 => x8) t, fun t f k => @N16.rec α (fun _ => Bool) (fun x0 x1 x2 x3 x4 x5 x6 x7 x8 x9 x10 x11 x12 x13 x14 x15 => f x8 fun v => k ⟨x0, x1, x2, x3, x4, x5, x6, x7, v, x9, x10, x11, x12, x13, x14, x15⟩) t⟩
  | 9 => ⟨fun t => @N16.rec α (fun _ => α) (fun x0 x1 x2 x3 x4 x5 x6 x7 x8 x9 x10 x11 x12 x13 x14 x15 => x9) t, fun t f k => @N16.rec α (fun _ => Bool) (fun x0 x1 x2 x3 x4 x5 x6 x7 x8 x9 x10 x11 x12 x13 x14 x15 => f x9 fun v => k ⟨x0, x1, x2, x3, x4, x5, x6, x7, x8, v, x10, x11, x12, x13, x14, x15⟩) t⟩
  | 10 => ⟨fun t => @N16.rec α (fun _ => α) (fun x0 x1 x2 x3 x4 x5 x6 x7 x8 x9 x10 x11 x12 x13 x14 x15 => x10) t, fun t f k => @N16.rec α (fun _ => Bool) (fun x0 x1 x2 x3 x4 x5 x6 x7 x8 x9 x10 x11 x12 x13 x14 x15 => f x10 fun v => k ⟨x0, x1, x2, x3, x4, x5, x6, x7, x8, x9, v, x11, x12, x13, x14, x15⟩) t⟩
  | 11 => ⟨fun t => @N16.rec α (fun _ => α) (fun x0 x1 x2 x3 x4 x5 x6 x7 x8 x9 x10 x11 x12 x13 x14 x15 => x11) t, fun t f k => @N16.rec α (fun _ => Bool) (fun x0 x1 x2 x3 x4 x5 x6 x7 x8 x9 x10 x11 x12 x13 x14 x15 => f x11 fun v => k ⟨x0, x1, x2, x3, x4, x5, x6, x7, x8, x9, x10, v, x12, x13, x14, x15⟩) t⟩
  | 12 => ⟨fun t => @N16.rec α (fun _ => α) (fun x0 x1 x2 x3 x4 x5 x6 x7 x8 x9 x10 x11 x12 x13 x14 x15 => x12) t, fun t f k => @N16.rec α (fun _ => Bool) (fun x0 x1 x2 x3 x4 x5 x6 x7 x8 x9 x10 x11 x12 x13 x14 x15 => f x12 fun v => k ⟨x0, x1, x2, x3, x4, x5, x6, x7, x8, x9, x10, x11, v, x13, x14, x15⟩) t⟩
  | 13 => ⟨fun t => @N16.rec α (fun _ => α) (fun x0 x1 x2 x3 x4 x5 x6 x7 x8 x9 x10 x11 x12 x13 x14 x15 => x13) t, fun t f k => @N16.rec α (fun _ => Bool) (fun x0 x1 x2 x3 x4 x5 x6 x7 x8 x9 x10 x11 x12 x13 x14 x15 => f x13 fun v => k ⟨x0, x1, x2, x3, x4, x5, x6, x7, x8, x9, x10, x11, x12, v, x14, x15⟩) t⟩
  | 14 => ⟨fun t => @N16.rec α (fun _ => α) (fun x0 x1 x2 x3 x4 x5 x6 x7 x8 x9 x10 x11 x12 x13 x14 x15 => x14) t, fun t f k => @N16.rec α (fun _ => Bool) (fun x0 x1 x2 x3 x4 x5 x6 x7 x8 x9 x10 x11 x12 x13 x14 x15 => f x14 fun v => k ⟨x0, x1, x2, x3, x4, x5, x6, x7, x8, x9, x10, x11, x12, x13, v, x15⟩) t⟩
  | _ => ⟨fun t => @N16.rec α (fun _ => α) (fun x0 x1 x2 x3 x4 x5 x6 x7 x8 x9 x10 x11 x12 x13 x14 x15 => x15) t, fun t f k => @N16.rec α (fun _ => Bool) (fun x0 x1 x2 x3 x4 x5 x6 x7 x8 x9 x10 x11 x12 x13 x14 x15 => f x15 fun v => k ⟨x0, x1, x2, x3, x4, x5, x6, x7, x8, x9, x10, x11, x12, x13, x14, v⟩) t⟩
structure XC where
  run : RF → AV
noncomputable def getC (i : Nat) : XC := ⟨fun R => (sel (Nat.mod i 16)).get ((sel (Nat.div i 16)).get R)⟩
noncomputable def xC : AX → XC
  | .t i => (match Nat.blt i 256 with
    | true => getC i
    | false => ⟨fun _ => .undef⟩)
  | .k v => ⟨fun _ => v⟩
structure DC where
  run : RF → AV → (RF → Bool) → Bool
noncomputable def dstI (i : Nat) : DC := ⟨fun R v k => (sel (Nat.div i 16)).put R (fun row k' => (sel (Nat.mod i 16)).put row (fun _ k'' => k'' v) k') k⟩
noncomputable def dstC (n : Nat) : Option Nat → DC
  | none => ⟨fun R _ k => k R⟩
  | some i => (match Nat.blt i n, Nat.blt i 256 with
    | true, true => dstI i
    | _, _ => ⟨fun _ _ _ => false⟩)

/-! ### The heap -/
noncomputable def onObj (s : St) (id : Nat) (f : AO → Bool) : Bool :=
  onSt s fun heap next _ _ hid => @Bool.rec (fun _ => Bool) false (@Bool.rec (fun _ => Bool) (@Option.rec AO (fun _ => Bool) false f (getR heap id)) false (hiddenR hid id)) (Nat.ble (Nat.succ id) next)
noncomputable def onCells (s : St) (id : Nat) (f : List AV → Nat → Bool → Bool) : Bool :=
  onObj s id fun o => @AO.rec (fun _ => Bool) f (fun _ => false) (fun _ => false) o
noncomputable def onLoop (s : St) (id : Nat) (f : ALoop → Bool) : Bool :=
  onObj s id fun o => @AO.rec (fun _ => Bool) (fun _ _ _ => false) (fun _ => false) f o
noncomputable def setF (s : St) (id : Nat) (o : AO) (k : St → Bool) : Bool :=
  onSt s fun heap next base wr hid => @Bool.rec (fun _ => Bool) (k ⟨putR (some o) (Nat.succ id) heap id, next, base, wr, hid⟩)
    (@Bool.rec (fun _ => Bool) (k ⟨putR (some o) (Nat.succ id) heap id, next, base, id :: wr, hid⟩) (k ⟨putR (some o) (Nat.succ id) heap id, next, base, wr, hid⟩) (memNR wr id)) (Nat.ble (Nat.succ id) base)
noncomputable def newF (s : St) (o : AO) (k : Nat → St → Bool) : Bool :=
  onSt s fun heap next base wr hid => @Bool.rec (fun _ => Bool) false (litN (Nat.succ next) fun next' => k next ⟨putR (some o) next' heap next, next', base, wr, hid⟩) (Nat.ble (Nat.succ next) big)

/-! ### Operations -/
/-- an operation with its operands read -/
structure LC where
  run : RF → AOp
noncomputable def kC (x : AX) (R : RF) : AX := .k ((xC x).run R)
noncomputable def kCo (x : Option AX) (R : RF) : Option AX := match x with
  | none => none
  | some x => some (kC x R)
structure ArgC where
  run : RF → (List AV → Bool) → Bool
noncomputable def argC (l : List AX) : ArgC := @List.rec AX (fun _ => ArgC) ⟨fun _ k => k []⟩ (fun x _ ih => ⟨fun R k => fv ((xC x).run R) fun v => ih.run R fun l => k (v :: l)⟩) l
structure KsC where
  run : RF → List AX
noncomputable def kCs (l : List AX) : KsC := @List.rec AX (fun _ => KsC) ⟨fun _ => []⟩ (fun x _ ih => ⟨fun R => kC x R :: ih.run R⟩) l
structure KpC where
  run : RF → List (Nat × Nat × AX)
noncomputable def kCp (l : List (Nat × Nat × AX)) : KpC := @List.rec (Nat × Nat × AX) (fun _ => KpC) ⟨fun _ => []⟩ (fun e _ ih => ⟨fun R => (e.1, e.2.1, kC e.2.2 R) :: ih.run R⟩) l
noncomputable def litC : AOp → LC
  | .mv x => ⟨fun R => .mv (kC x R)⟩
  | .pick c a b => ⟨fun R => .pick (kC c R) (kC a R) (kC b R)⟩
  | .new elem zero => ⟨fun _ => .new elem zero⟩
  | .box elem x => ⟨fun R => .box elem (kC x R)⟩
  | .build zero parts => ⟨fun R => .build zero ((kCp parts).run R)⟩
  | .buildS elem len cells parts => ⟨fun R => .buildS elem len cells ((kCp parts).run R)⟩
  | .load sz x => ⟨fun R => .load sz (kC x R)⟩
  | .store sz x v => ⟨fun R => .store sz (kC x R) (kC v R)⟩
  | .nilck x => ⟨fun R => .nilck (kC x R)⟩
  | .bin op x y => ⟨fun R => .bin op (kC x R) (kC y R)⟩
  | .eq neg t x y => ⟨fun R => .eq neg t (kC x R) (kC y R)⟩
  | .un op x => ⟨fun R => .un op (kC x R)⟩
  | .conv c x => ⟨fun R => .conv c (kC x R)⟩
  | .s2ap n x => ⟨fun R => .s2ap n (kC x R)⟩
  | .mkfn fn a b => ⟨fun R => .mkfn fn ((kCs a).run R) ((kCs b).run R)⟩
  | .mkmap => ⟨fun _ => .mkmap⟩
  | .mksl elem bytes esz zero l c => ⟨fun R => .mksl elem bytes esz zero (kC l R) (kC c R)⟩
  | .slStr x lo hi => ⟨fun R => .slStr (kC x R) (kCo lo R) (kCo hi R)⟩
  | .slSl esz x lo hi mx => ⟨fun R => .slSl esz (kC x R) (kCo lo R) (kCo hi R) (kCo mx R)⟩
  | .slArr n esz x lo hi mx => ⟨fun R => .slArr n esz (kC x R) (kCo lo R) (kCo hi R) (kCo mx R)⟩
  | .faddr off x => ⟨fun R => .faddr off (kC x R)⟩
  | .field sz off x => ⟨fun R => .field sz off (kC x R)⟩
  | .iaddrA n esz x i => ⟨fun R => .iaddrA n esz (kC x R) (kC i R)⟩
  | .iaddrS esz x i => ⟨fun R => .iaddrS esz (kC x R) (kC i R)⟩
  | .indexA n esz sz x i => ⟨fun R => .indexA n esz sz (kC x R) (kC i R)⟩
  | .indexS x i => ⟨fun R => .indexS (kC x R) (kC i R)⟩
  | .lookup kt zero x i ok => ⟨fun R => .lookup kt zero (kC x R) (kC i R) ok⟩
  | .mapup kt m k v => ⟨fun R => .mapup kt (kC m R) (kC k R) (kC v R)⟩
  | .extract x i => ⟨fun R => .extract (kC x R) i⟩
  | .call f args => ⟨fun R => .call (kC f R) ((kCs args).run R)⟩
  | .append elem esz bytes s x => ⟨fun R => .append elem esz bytes (kC s R) (kC x R)⟩
  | .appendZ elem esz bytes zero s n => ⟨fun R => .appendZ elem esz bytes zero (kC s R) (kC n R)⟩
  | .copy esz d s => ⟨fun R => .copy esz (kC d R) (kC s R)⟩
  | .lenS x => ⟨fun R => .lenS (kC x R)⟩
  | .lenStr x => ⟨fun R => .lenStr (kC x R)⟩
  | .lenA n => ⟨fun _ => .lenA n⟩
  | .lenM x => ⟨fun R => .lenM (kC x R)⟩
  | .capS x => ⟨fun R => .capS (kC x R)⟩
  | .clearM x => ⟨fun R => .clearM (kC x R)⟩
  | .clearS esz zero x => ⟨fun R => .clearS esz zero (kC x R)⟩
  | .delete kt m k => ⟨fun R => .delete kt (kC m R) (kC k R)⟩
  | .min2 x y => ⟨fun R => .min2 (kC x R) (kC y R)⟩
  | .max2 x y => ⟨fun R => .max2 (kC x R) (kC y R)⟩
  | .sdata x => ⟨fun R => .sdata (kC x R)⟩
  | .ustr u8 p n => ⟨fun R => .ustr u8 (kC p R) (kC n R)⟩
  | .bad => ⟨fun _ => .bad⟩
def noT : Tmps := ⟨0, blank, .nil⟩

structure OC where
  run : FCall → FCall → RF → St → KV → Bool
/-- any operation -/
noncomputable def opG (o : AOp) : OC :=
  match isFree o with
  | true => ⟨fun _ _ R s k => match opAR ((litC o).run R) noT s with
    | some (.val v, _) => fv v fun v => k v s
    | _ => false⟩
  | false => ⟨fun call round R s k => match opAR ((litC o).run R) noT s with
    | some (.val v, s') => fv v fun v => normS s' fun s' => k v s'
    | some (.enter f args, s') => call f args s' k
    | some (.round l args, s') => round l args s' k
    | none => false⟩

/-! ### Arithmetic -/
noncomputable def kc (k : IntKind) : Nat := @IntKind.rec (fun _ => Nat) 0 1 2 3 4 5 6 7 k
noncomputable def onNN (x y : AV) (f : IntKind → Nat → Nat → Bool) (fb : Bool) : Bool :=
  onIntD x fb fun k n => @Int.rec (fun _ => Bool) (fun a => onIntD y fb fun k' m => @Int.rec (fun _ => Bool) (fun b => @Bool.rec (fun _ => Bool) fb (f k a b) (Nat.beq (kc k) (kc k'))) (fun _ => fb) m) (fun _ => fb) n
noncomputable def onMM (x y : AV) (f : IntKind → Nat → Nat → Bool) (fb : Bool) : Bool :=
  onIntD x fb fun k n => @Int.rec (fun _ => Bool) (fun a => onIntD y fb fun _ m => @Int.rec (fun _ => Bool) (fun b => f k a b) (fun _ => fb) m) (fun _ => fb) n
/-- a number in a kind -/
noncomputable def wrapF (k : IntKind) (n : Nat) (kv : AV → Bool) : Bool :=
  let sg (k : IntKind) (h : Nat) : Bool := @Bool.rec (fun _ => Bool) (kv (.int k (wrapA k (.ofNat n)))) (litN n fun n => kv (.int k (.ofNat n))) (Nat.ble (Nat.succ n) h)
  let un (k : IntKind) (p : Nat) : Bool := litN (Nat.mod n p) fun r => kv (.int k (.ofNat r))
  @IntKind.rec (fun _ => Bool) (sg .i8 128) (sg .i16 32768) (sg .i32 2147483648) (sg .i64 9223372036854775808) (un .u8 256) (un .u16 65536) (un .u32 4294967296) (un .u64 18446744073709551616) k
/-- bits of unsigned ones -/
noncomputable def bitF (k : IntKind) (a b : Nat) (g : Nat → Nat → Nat) (fb : Bool) (kv : AV → Bool) : Bool :=
  let un (k : IntKind) (p : Nat) : Bool := litN (g (Nat.mod a p) (Nat.mod b p)) fun r => kv (.int k (.ofNat r))
  @IntKind.rec (fun _ => Bool) fb fb fb fb (un .u8 256) (un .u16 65536) (un .u32 4294967296) (un .u64 18446744073709551616) k
structure BC where
  run : AV → AV → (AV → Bool) → Bool
noncomputable def binG (op : BinOp) (x y : AV) (kv : AV → Bool) : Bool := @Option.rec AV (fun _ => Bool) false (fun v => fv v kv) (binAR op x y)
noncomputable def notR (b : Bool) : Bool := @Bool.rec (fun _ => Bool) true false b
noncomputable def boolF (b : Bool) (kv : AV → Bool) : Bool := @Bool.rec (fun _ => Bool) (kv (.bool false)) (kv (.bool true)) b
noncomputable def binC (op : BinOp) : BC :=
  match op with
  | .add => ⟨fun x y kv => onNN x y (fun k a b => wrapF k (Nat.add a b) kv) (binG .add x y kv)⟩
  | .sub => ⟨fun x y kv => onNN x y (fun k a b => @Bool.rec (fun _ => Bool) (binG .sub x y kv) (wrapF k (Nat.sub a b) kv) (Nat.ble b a)) (binG .sub x y kv)⟩
  | .mul => ⟨fun x y kv => onNN x y (fun k a b => wrapF k (Nat.mul a b) kv) (binG .mul x y kv)⟩
  | .and => ⟨fun x y kv => onNN x y (fun k a b => bitF k a b Nat.land (binG .and x y kv) kv) (binG .and x y kv)⟩
  | .or => ⟨fun x y kv => onNN x y (fun k a b => bitF k a b Nat.lor (binG .or x y kv) kv) (binG .or x y kv)⟩
  | .xor => ⟨fun x y kv => onNN x y (fun k a b => bitF k a b Nat.xor (binG .xor x y kv) kv) (binG .xor x y kv)⟩
  | .shl => ⟨fun x y kv => onMM x y (fun k a b => wrapF k (Nat.mul a (Nat.pow 2 (minN b k.bits))) kv) (binG .shl x y kv)⟩
  | .shr => ⟨fun x y kv => onMM x y (fun k a b => litN (Nat.div a (Nat.pow 2 (minN b k.bits))) fun r => kv (.int k (.ofNat r))) (binG .shr x y kv)⟩
  | .eql => ⟨fun x y kv => onNN x y (fun _ a b => boolF (Nat.beq a b) kv) (binG .eql x y kv)⟩
  | .neq => ⟨fun x y kv => onNN x y (fun _ a b => boolF (notR (Nat.beq a b)) kv) (binG .neq x y kv)⟩
  | .lss => ⟨fun x y kv => onNN x y (fun _ a b => boolF (Nat.ble (Nat.succ a) b) kv) (binG .lss x y kv)⟩
  | .leq => ⟨fun x y kv => onNN x y (fun _ a b => boolF (Nat.ble a b) kv) (binG .leq x y kv)⟩
  | .gtr => ⟨fun x y kv => onNN x y (fun _ a b => boolF (Nat.ble (Nat.succ b) a) kv) (binG .gtr x y kv)⟩
  | .geq => ⟨fun x y kv => onNN x y (fun _ a b => boolF (Nat.ble b a) kv) (binG .geq x y kv)⟩
  | op => ⟨fun x y kv => binG op x y kv⟩
noncomputable def convF (k : IntKind) (x : AV) (kv : AV → Bool) : Bool :=
  onInt x fun _ n => @Int.rec (fun _ => Bool) (fun a => wrapF k a kv) (fun a => kv (.int k (wrapA k (.negSucc a)))) n
noncomputable def onGet (l : List AV) (i : Nat) (f : AV → Bool) : Bool := @List.rec AV (fun _ => Nat → Bool) (fun _ => false) (fun a _ ih n => @Nat.rec (fun _ => Bool) (f a) (fun m _ => ih m) n) l i
noncomputable def setAt (v : AV) (l : List AV) : Nat → List AV := @List.rec AV (fun _ => Nat → List AV) (fun _ => []) (fun a t ih n => @Nat.rec (fun _ => List AV) (v :: t) (fun m _ => a :: ih m) n) l
noncomputable def onSub (c : List AV) (off n : Nat) (f : List AV → Bool) : Bool := @Bool.rec (fun _ => Bool) false (f (ltakeR n (ldropR off c))) (Nat.beq (llenR (ltakeR n (ldropR off c))) n)
structure PtC where
  run : List AV → Nat → (AV → Bool) → Bool
noncomputable def partC : Option Nat → PtC
  | none => ⟨onGet⟩
  | some n => ⟨fun c off k => onSub c off n fun r => k (.agg r)⟩
structure EqC where
  run : St → AV → AV → (Bool → Bool) → Bool
noncomputable def eqG (t : EqT) (s : St) (x y : AV) (k : Bool → Bool) : Bool := @Option.rec Bool (fun _ => Bool) false k (eqA s 12 t x y)
noncomputable def eqC (t : EqT) : EqC :=
  match t with
  | .ptr => ⟨fun s x y k => onNil x (onNil y (k true) (onPtrD y (eqG .ptr s x y k) (k false))) (onPtrD x (eqG .ptr s x y k) (onNil y (k false) (eqG .ptr s x y k)))⟩
  | .sl => ⟨fun s x y k => onNilS y (onNilS x (k true) (onSlD x (eqG .sl s x y k) fun _ _ _ => k false)) (eqG .sl s x y k)⟩
  | t => ⟨eqG t⟩
noncomputable def callV (call round : FCall) (f : AV) (args : List AV) (s : St) (k : KV) : Bool :=
  onFunc f fun fn a b => match fn, a, b with
    | .func g, a, b => call g (appR a (appR args b)) s k
    | .yield l, [], [] => round l args s k
    | _, _, _ => false
noncomputable def opC : AOp → OC
  | .mv x => ⟨fun _ _ R s k => fv ((xC x).run R) fun v => k v s⟩
  | .pick c a b => ⟨fun _ _ R s k => onBool ((xC c).run R) fun t => @Bool.rec (fun _ => Bool) (fv ((xC b).run R) fun v => k v s) (fv ((xC a).run R) fun v => k v s) t⟩
  | .load sz x => ⟨fun _ _ R s k => onPtr ((xC x).run R) fun id off => onCells s id fun c _ _ => (partC sz).run c off fun v => fv v fun v => k v s⟩
  | .store sz x v => (match Nat.beq sz 1 with
    | true => ⟨fun _ _ R s k => onPtr ((xC x).run R) fun id off => onCells s id fun c el fz => fv ((xC v).run R) fun w => @List.rec AV (fun _ => Bool) false
        (fun a t _ => @List.rec AV (fun _ => Bool) (@Bool.rec (fun _ => Bool) false (onGet c off fun _ => setF s id (.cells (setAt a c off) el fz) fun s' => k .undef s') (oneR a)) (fun _ _ _ => false) t) (cellsR w)⟩
    | false => opG (.store sz x v))
  | .new elem zero => ⟨fun _ _ _ s k => newF s (.cells zero elem false) fun id s' => k (.ptr id Nat.zero) s'⟩
  | .box elem x => ⟨fun _ _ R s k => fv ((xC x).run R) fun v => newF s (.cells (cellsR v) elem false) fun id s' => k (.ptr id Nat.zero) s'⟩
  | .faddr off x => ⟨fun _ _ R s k => onPtr ((xC x).run R) fun id o => litN (Nat.add o off) fun q => k (.ptr id q) s⟩
  | .iaddrA n esz x i => ⟨fun _ _ R s k => onPtr ((xC x).run R) fun id off => onInt ((xC i).run R) fun _ j => @Int.rec (fun _ => Bool) (fun j => @Bool.rec (fun _ => Bool) false (litN (Nat.add off (Nat.mul j esz)) fun q => k (.ptr id q) s) (Nat.ble (Nat.succ j) n)) (fun _ => false) j⟩
  | .iaddrS esz x i => ⟨fun _ _ R s k => onSl ((xC x).run R) fun id off len => onInt ((xC i).run R) fun _ j => @Int.rec (fun _ => Bool) (fun j => @Bool.rec (fun _ => Bool) false (litN (Nat.add off (Nat.mul j esz)) fun q => k (.ptr id q) s) (Nat.ble (Nat.succ j) len)) (fun _ => false) j⟩
  | .lenS x => ⟨fun _ _ R s k => onNilS ((xC x).run R) (k (.int .i64 (.ofNat Nat.zero)) s) (onSl ((xC x).run R) fun _ _ n => k (.int .i64 (.ofNat n)) s)⟩
  | .bin op x y => ⟨fun _ _ R s k => (binC op).run ((xC x).run R) ((xC y).run R) fun v => k v s⟩
  | .eq neg t x y => (match neg with
    | false => ⟨fun _ _ R s k => (eqC t).run s ((xC x).run R) ((xC y).run R) fun b => boolF b fun v => k v s⟩
    | true => ⟨fun _ _ R s k => (eqC t).run s ((xC x).run R) ((xC y).run R) fun b => boolF (notR b) fun v => k v s⟩)
  | .conv (.int q) x => ⟨fun _ _ R s k => convF q ((xC x).run R) fun v => k v s⟩
  | .un .not x => ⟨fun _ _ R s k => onBool ((xC x).run R) fun b => boolF (notR b) fun v => k v s⟩
  | .extract x i => ⟨fun _ _ R s k => onTup ((xC x).run R) fun l => onGet l i fun v => fv v fun v => k v s⟩
  | .call (.k (.func (.func g) [] [])) args => ⟨fun call _ R s k => (argC args).run R fun l => call g l s k⟩
  | .call f args => ⟨fun call round R s k => (argC args).run R fun l => callV call round ((xC f).run R) l s k⟩
  | .nilck x => ⟨fun _ _ R s k => onRef ((xC x).run R) fun v => k v s⟩
  | o => opG o

structure RegC where
  run : FCall → FCall → RF → St → (RF → St → Bool) → Bool
noncomputable def opsC (n : Nat) (l : List AOper) : RegC :=
  @List.rec AOper (fun _ => RegC) ⟨fun _ _ R s k => k R s⟩
    (fun o _ ih => match o.guard with
      | none => ⟨fun call round R s k => (opC o.op).run call round R s fun v s' => (dstC n o.dst).run R v fun R' => ih.run call round R' s' k⟩
      | some (t, w) => ⟨fun call round R s k => onBoolD ((xC (.t t)).run R) ((dstC n o.dst).run R .undef fun R' => ih.run call round R' s k) fun b => @Bool.rec (fun _ => Bool)
          ((dstC n o.dst).run R .undef fun R' => ih.run call round R' s k)
          ((opC o.op).run call round R s fun v s' => (dstC n o.dst).run R v fun R' => ih.run call round R' s' k) (boolEq b w)⟩) l

/-! ### Drawn regions -/
structure RdC where
  run : RF → Option (List Nat)
noncomputable def rdC : AOp → RdC
  | .load _ x => ⟨fun R => some (idOf ((xC x).run R))⟩
  | .store _ x _ => ⟨fun R => some (idOf ((xC x).run R))⟩
  | .conv c x => (match c with
    | .int _ | .same => ⟨fun _ => some []⟩
    | _ => ⟨fun R => some (idOf ((xC x).run R))⟩)
  | o => (match readsOf o noT with
    | some [] => ⟨fun _ => some []⟩
    | _ => ⟨fun _ => none⟩)
noncomputable def disjR (w b : List Nat) : Bool := @List.rec Nat (fun _ => Bool) true (fun x _ ih => @Bool.rec (fun _ => Bool) ih false (memNR b x)) w
noncomputable def outsideR (a : List Nat) (lo hi : Nat) : Bool := @List.rec Nat (fun _ => Bool) true (fun x _ ih => @Bool.rec (fun _ => Bool) ih (@Bool.rec (fun _ => Bool) ih false (Nat.blt x hi)) (Nat.ble lo x)) a
noncomputable def apartWRR (w : List Nat) (rd : Option (List Nat)) : Bool := @List.rec Nat (fun _ => Bool) true (fun x r _ => @Option.rec (List Nat) (fun _ => Bool) false (fun l => disjR (x :: r) l) rd) w
noncomputable def andR (a b : Bool) : Bool := @Bool.rec (fun _ => Bool) false b a
noncomputable def rdOutR (rd : Option (List Nat)) (lo hi : Nat) : Bool := @Option.rec (List Nat) (fun _ => Bool) true (fun r => outsideR r lo hi) rd
noncomputable def apartR (a b : Touch) : Bool :=
  andR (apartWRR a.wr b.rd) (andR (apartWRR b.wr a.rd) (andR (disjR a.wr b.wr) (andR (outsideR a.wr b.lo b.hi) (andR (outsideR b.wr a.lo a.hi) (andR (rdOutR a.rd b.lo b.hi) (rdOutR b.rd a.lo a.hi))))))
noncomputable def nthTR (l : List Touch) : Nat → Option Touch := @List.rec Touch (fun _ => Nat → Option Touch) (fun _ => none) (fun a _ ih n => @Nat.rec (fun _ => Option Touch) (some a) (fun m _ => ih m) n) l
noncomputable def apartAllR (t : Touch) (sofar : List Touch) (n : Nat) (l : List Nat) : Bool :=
  @List.rec Nat (fun _ => Bool) true (fun j _ ih => @Option.rec Touch (fun _ => Bool) false (fun u => @Bool.rec (fun _ => Bool) false ih (apartR t u)) (nthTR sofar (Nat.sub (Nat.sub n 1) j))) l
noncomputable def hidesR (sofar : List Touch) (n : Nat) (l : List Nat) (h : List (Nat × Nat)) : List (Nat × Nat) :=
  @List.rec Nat (fun _ => List (Nat × Nat)) h (fun j _ ih => @Option.rec Touch (fun _ => List (Nat × Nat)) ih (fun u => @Bool.rec (fun _ => List (Nat × Nat)) ((u.lo, u.hi) :: ih) ih (Nat.beq u.lo u.hi)) (nthTR sofar (Nat.sub (Nat.sub n 1) j))) l
/-- what is hidden; 'q': none of those ahead has made anything -/
noncomputable def hidF (rd : Option (List Nat)) (q : Bool) (sofar : List Touch) (n : Nat) (uno : List Nat) (next : Nat) (hid : List (Nat × Nat)) (k : List (Nat × Nat) → Bool) : Bool :=
  @Option.rec (List Nat) (fun _ => Bool) (@Bool.rec (fun _ => Bool) (forceL (hidesR sofar n uno hid) k) (k hid) q)
    (fun l => @List.rec Nat (fun _ => Bool) (k ((Nat.zero, next) :: hid)) (fun x r _ => @List.rec Nat (fun _ => Bool) (k ((Nat.zero, x) :: (Nat.succ x, next) :: hid)) (fun _ _ _ => false) r) l) rd
noncomputable def nilNR (l : List Nat) : Bool := @List.rec Nat (fun _ => Bool) true (fun _ _ _ => false) l
noncomputable def allLt (l : List Nat) (i : Nat) : Bool := @List.rec Nat (fun _ => Bool) true (fun j _ ih => @Bool.rec (fun _ => Bool) false ih (Nat.blt j i)) l
/-- the flag: has none of those ahead written or made anything? -/
structure DrC where
  run : FCall → FCall → Bool → List Touch → RF → St → (RF → St → Bool) → Bool
noncomputable def opD (n i : Nat) (o : AOper) (ih : DrC) : DrC :=
  match isFree o.op, nilN o.uno, allLt o.uno i with
  | true, true, true => ⟨fun call round q sofar R s k => (opC o.op).run call round R s fun v _ => (dstC n o.dst).run R v fun R' => ih.run call round q (⟨some [], [], s.next, s.next⟩ :: sofar) R' s k⟩
  | false, _, true => ⟨fun call round q sofar R s k => onSt s fun heap next base wr hid => hidF ((rdC o.op).run R) q sofar i o.uno next hid fun h =>
      (opC o.op).run call round R ⟨heap, next, next, [], h⟩ fun v s' => onSt s' fun heap' next' _ wr' _ =>
        @Bool.rec (fun _ => Bool)
          (@Bool.rec (fun _ => Bool) false (forceL (noteAllR s wr') fun w => (dstC n o.dst).run R v fun R' => ih.run call round false (⟨(rdC o.op).run R, wr', next, next'⟩ :: sofar) R' ⟨heap', next', base, w, hid⟩ k)
            (apartAllR ⟨(rdC o.op).run R, wr', next, next'⟩ sofar i o.uno))
          ((dstC n o.dst).run R v fun R' => ih.run call round true (⟨(rdC o.op).run R, [], next, next⟩ :: sofar) R' ⟨heap', next, base, wr, hid⟩ k)
          (andR q (andR (nilNR wr') (Nat.beq next next')))⟩
  | _, _, _ => ⟨fun _ _ _ _ _ _ _ => false⟩
noncomputable def opsD (n : Nat) (l : List AOper) : Nat → DrC :=
  @List.rec AOper (fun _ => Nat → DrC) (fun _ => ⟨fun _ _ _ _ R s k => k R s⟩)
    (fun o _ ih i => match o.guard with
      | none => opD n i o (ih (Nat.succ i))
      | some (t, w) => ⟨fun call round q sofar R s k => onBoolD ((xC (.t t)).run R) ((dstC n o.dst).run R .undef fun R' => (ih (Nat.succ i)).run call round q (⟨some [], [], s.next, s.next⟩ :: sofar) R' s k) fun b => @Bool.rec (fun _ => Bool)
          ((dstC n o.dst).run R .undef fun R' => (ih (Nat.succ i)).run call round q (⟨some [], [], s.next, s.next⟩ :: sofar) R' s k)
          ((opD n i o (ih (Nat.succ i))).run call round q sofar R s k) (boolEq b w)⟩) l

/-! ### Codes -/
structure CC where
  run : FCall → FCall → RF → St → (RF → St → Bool) → (Nat → RF → St → Bool) → (RF → St → Bool) → Bool
noncomputable def loopF (b : CC) (m : Nat) : FCall → FCall → RF → St → (Nat → RF → St → Bool) → (RF → St → Bool) → Bool :=
  @Nat.rec (fun _ => FCall → FCall → RF → St → (Nat → RF → St → Bool) → (RF → St → Bool) → Bool) (fun _ _ _ _ _ _ => false)
    (fun _ ih call round R s kE kR => b.run call round R s (fun R' s' => ih call round R' s' kE kR) kE kR) m
def loopFuel : Nat := 1000000
noncomputable def loopC (c : CC) : CC := ⟨fun call round R s _ kE kR => loopF c loopFuel call round R s kE kR⟩
noncomputable def putsC (n : Nat) (l : List (Nat × AV)) : RF → (RF → Bool) → Bool := @List.rec (Nat × AV) (fun _ => RF → (RF → Bool) → Bool) (fun R k => k R) (fun e _ ih R k => fv e.2 fun v => (dstC n (some e.1)).run R v fun R' => ih R' k) l
noncomputable def den (prog : Nat → Option AFun) (n : Nat) (c : ACode) : CC :=
  @ACode.rec (fun _ => CC)
    ⟨fun _ _ R s kN _ _ => kN R s⟩
    (fun draw ops => match draw with
      | false => ⟨fun call round R s kN _ _ => (opsC n ops).run call round R s kN⟩
      | true => ⟨fun call round R s kN _ _ => (opsD n ops 0).run call round true [] R s kN⟩)
    (fun _ _ a b => ⟨fun call round R s kN kE kR => a.run call round R s (fun R' s' => b.run call round R' s' kN kE kR) kE kR⟩)
    (fun x _ _ a b => ⟨fun call round R s kN kE kR => onBool ((xC x).run R) fun t => @Bool.rec (fun _ => Bool) (b.run call round R s kN kE kR) (a.run call round R s kN kE kR) t⟩)
    (fun id _ c => ⟨fun call round R s kN kE kR => c.run call round R s kN (fun i R' s' => @Bool.rec (fun _ => Bool) (kE i R' s') (kN R' s') (Nat.beq i id)) kR⟩)
    (fun _ c => loopC c)
    (fun _ c => c)
    (fun id => ⟨fun _ _ R s _ kE _ => kE id R s⟩)
    ⟨fun _ _ R s _ _ kR => kR R s⟩
    (fun f ps assign body _ _ => ⟨fun call _ R s kN kE kR => match (xC f).run R, Nat.blt s.next big with
      | .func (.func g) first captured, true => (match entersB prog g with
        | false => false
        | true => normS (s.newS (.loop ⟨false, false, .normal, ⟨n, R, .nil⟩, ps, assign, body⟩)) fun s1 => call g (appR first (.func (.yield s.next) [] [] :: captured)) s1 fun _ s' =>
          onLoop s' s.next fun r => normS (s'.killS s.next) fun s'' => match r.busy, r.pend with
            | true, _ => false
            | false, .normal => kN R s''
            | false, .exit i => kE i R s''
            | false, .ret => kR R s'')
      | _, _ => false⟩)
    (fun tail => ⟨fun _ _ R s kN kE _ => match mapIt tail n ((xC (.t 12)).run R) s with
      | some (true, l, s') => normS s' fun s' => putsC n l R fun R' => kE 0 R' s'
      | some (false, l, s') => normS s' fun s' => putsC n l R fun R' => kN R' s'
      | none => false⟩)
    (fun k => ⟨fun _ _ R s kN _ _ => match nativeA k n ((xC (.t 0)).run R) ((xC (.t 1)).run R) s with
      | some (v, s') => fv v fun v => normS s' fun s' => (dstC n (some 0)).run R v fun R' => kN R' s'
      | none => false⟩)
    ⟨fun _ _ _ _ _ _ _ => false⟩ c

/-- a round: its codes are made anew, from the record -/
noncomputable def putArgs (n : Nat) (ps : List Nat) : List AV → RF → (RF → Bool) → Bool :=
  @List.rec Nat (fun _ => List AV → RF → (RF → Bool) → Bool) (fun l R k => @List.rec AV (fun _ => Bool) (k R) (fun _ _ _ => false) l)
    (fun p _ ih l R k => @List.rec AV (fun _ => Bool) false (fun a t _ => (dstC n (some p)).run R a fun R' => ih t R' k) l) ps
noncomputable def roundC (prog : Nat → Option AFun) (call : FCall) (round : FCall) : FCall := fun l args s k =>
  onLoop s l fun r => match r.T with
    | ⟨n, R, .nil⟩ => putArgs n r.ps args R fun R0 => (den prog n r.assign).run call round R0 s (fun R1 s1 => onLoop s1 l fun r1 => match r1.busy, r1.done with
          | false, false =>
            let fin (e : AExit) (go : Bool) (s3 : St) : Bool := onLoop s3 l fun r3 => normS (s3.setS l (.loop { r3 with busy := false, done := !go, pend := e })) fun s4 => k (.bool go) s4
            normS (s1.setS l (.loop { r1 with busy := true })) fun s2 => (den prog n r.body).run call round R1 s2 (fun _ s3 => fin .normal true s3) (fun i _ s3 => fin (.exit i) false s3) (fun _ s3 => fin .ret false s3)
          | _, _ => false) (fun _ _ _ => false) (fun _ _ => false)
    | _ => false

/-! ### Functions -/
structure StC where
  run : List AV → RF → (RF → Bool) → Bool
/-- the arguments into the first temporaries: from i on, so many at the most -/
noncomputable def startC (n m : Nat) : Nat → StC :=
  @Nat.rec (fun _ => Nat → StC) (fun _ => ⟨fun l R k => @List.rec AV (fun _ => Bool) (k R) (fun _ _ _ => false) l⟩)
    (fun _ ih i => ⟨fun l R k => @List.rec AV (fun _ => Bool) (k R) (fun a t _ => (dstC n (some i)).run R a fun R' => (ih (Nat.succ i)).run t R' k) l⟩) m
structure ResC where
  run : RF → St → (List AV → Bool) → Bool
noncomputable def resC (l : List ARes) : ResC :=
  @List.rec ARes (fun _ => ResC) ⟨fun _ _ k => k []⟩
    (fun r _ ih => match r with
      | .tmp t => ⟨fun R s k => fv ((xC (.t t)).run R) fun v => ih.run R s fun l => k (v :: l)⟩
      | .cell t sz => ⟨fun R s k => onPtr ((xC (.t t)).run R) fun id off => onCells s id fun c _ _ => (partC sz).run c off fun v => fv v fun v => ih.run R s fun l => k (v :: l)⟩) l
structure ResV where
  run : RF → St → (AV → Bool) → Bool
noncomputable def resV (l : List ARes) : ResV :=
  match l with
  | [r] => ⟨fun R s k => (resC [r]).run R s fun l => onGet l Nat.zero k⟩
  | l => ⟨fun R s k => (resC l).run R s fun l => k (.tup l)⟩
structure FC where
  run : FCall → FCall → List AV → St → KV → Bool
noncomputable def funC (prog : Nat → Option AFun) (f : Nat) : FC :=
  match prog f with
  | none => ⟨fun _ _ _ _ _ => false⟩
  | some af => ⟨fun call round args s k => (startC af.ntmps 16 0).run args blank fun R => onSt s fun heap next base _ hid => (den prog af.ntmps af.body).run call round R ⟨heap, next, next, [], hid⟩
      (fun R s' => (resV af.res).run R s' fun v => onSt s' fun heap' next' _ wr' _ => forceL (noteAllR s wr') fun w => k v ⟨heap', next', base, w, hid⟩) (fun _ _ _ => false)
      (fun R s' => (resV af.res).run R s' fun v => onSt s' fun heap' next' _ wr' _ => forceL (noteAllR s wr') fun w => k v ⟨heap', next', base, w, hid⟩)⟩
/-- calls, so and so deep; 'over': functions that have a contract of their own -/
structure Mach where
  call : FCall
  round : FCall
noncomputable def mach (prog : Nat → Option AFun) (over : Nat → Option FC) (n : Nat) : Mach :=
  @Nat.rec (fun _ => Mach) ⟨fun _ _ _ _ => false, fun _ _ _ _ => false⟩
    (fun _ ih => ⟨fun f args s k => (match over f with
        | some c => c
        | none => funC prog f).run ih.call ih.round args s k, roundC prog ih.call ih.round⟩) n

end Go.Qa
end

/- The fast machine is sound: values, temporaries, the heap, arithmetic. -/
section
namespace Go.Qa

/-! ### Looking now changes nothing -/
theorem litN_eq (n : Nat) (k : Nat → Bool) : litN n k = k n := by cases n <;> rfl
theorem forceL_eq {α : Type} (l : List α) (k : List α → Bool) : forceL l k = k l := by cases l <;> rfl
theorem forceT_eq (t : Tr AO) (k : Tr AO → Bool) : forceT t k = k t := by cases t <;> rfl
theorem onSt_eq (s : St) (k : Tr AO → Nat → Nat → List Nat → List (Nat × Nat) → Bool) : onSt s k = k s.heap s.next s.base s.wr s.hid := by cases s; rfl
theorem normS_eq (s : St) (k : St → Bool) : normS s k = k s := by
  unfold normS; simp only [onSt_eq, forceT_eq, litN_eq, forceL_eq]
theorem fv_eq (v : AV) (f : AV → Bool) : fv v f = f v := by cases v <;> rfl

theorem onBool_t {v : AV} {f : Bool → Bool} (h : onBool v f = true) : ∃ b, v = .bool b ∧ f b = true := by
  cases v <;> first | (cases h; done) | exact ⟨_, rfl, h⟩
theorem onInt_t {v : AV} {f : IntKind → Int → Bool} (h : onInt v f = true) : ∃ k n, v = .int k n ∧ f k n = true := by
  cases v <;> first | (cases h; done) | exact ⟨_, _, rfl, h⟩
theorem onPtr_t {v : AV} {f : Nat → Nat → Bool} (h : onPtr v f = true) : ∃ i o, v = .ptr i o ∧ f i o = true := by
  cases v <;> first | (cases h; done) | exact ⟨_, _, rfl, h⟩
theorem onTup_t {v : AV} {f : List AV → Bool} (h : onTup v f = true) : ∃ l, v = .tup l ∧ f l = true := by
  cases v <;> first | (cases h; done) | exact ⟨_, rfl, h⟩
theorem onFunc_t {v : AV} {f : Fn → List AV → List AV → Bool} (h : onFunc v f = true) : ∃ fn a b, v = .func fn a b ∧ f fn a b = true := by
  cases v <;> first | (cases h; done) | exact ⟨_, _, _, rfl, h⟩
theorem onRef_t {v : AV} {f : AV → Bool} (h : onRef v f = true) : ((∃ i o, v = .ptr i o) ∨ (∃ fn a b, v = .func fn a b)) ∧ f v = true := by
  cases v <;> first | (cases h; done) | exact ⟨.inl ⟨_, _, rfl⟩, h⟩ | exact ⟨.inr ⟨_, _, _, rfl⟩, h⟩
theorem onSl_t {v : AV} {f : Nat → Nat → Nat → Bool} (h : onSl v f = true) : ∃ i o l, ((∃ c, v = .sl i o l c) ∨ (∃ e, v = .slo i o l e)) ∧ f i o l = true := by
  cases v <;> first | (cases h; done) | exact ⟨_, _, _, .inl ⟨_, rfl⟩, h⟩ | exact ⟨_, _, _, .inr ⟨_, rfl⟩, h⟩
theorem onNil_t {v : AV} {t e : Bool} (h : onNil v t e = true) : (v = .nilptr ∧ t = true) ∨ (v ≠ .nilptr ∧ e = true) := by
  cases v <;> first | exact .inl ⟨rfl, h⟩ | exact .inr ⟨fun e => (by cases e), h⟩
theorem onPtrD_t {v : AV} {e t : Bool} (h : onPtrD v e t = true) : (∃ i o, v = .ptr i o ∧ t = true) ∨ e = true := by
  cases v <;> first | exact .inr h | exact .inl ⟨_, _, rfl, h⟩
theorem onNilS_t {v : AV} {t e : Bool} (h : onNilS v t e = true) : (v = .nilsl ∧ t = true) ∨ (v ≠ .nilsl ∧ e = true) := by
  cases v <;> first | exact .inl ⟨rfl, h⟩ | exact .inr ⟨fun e => (by cases e), h⟩
theorem onSlD_t {v : AV} {e : Bool} {f : Nat → Nat → Nat → Bool} (h : onSlD v e f = true) : (∃ i o l, ((∃ c, v = .sl i o l c) ∨ (∃ q, v = .slo i o l q)) ∧ f i o l = true) ∨ e = true := by
  cases v <;> first | exact .inr h | exact .inl ⟨_, _, _, .inl ⟨_, rfl⟩, h⟩ | exact .inl ⟨_, _, _, .inr ⟨_, rfl⟩, h⟩
theorem bool_t {a b c : Bool} (h : @Bool.rec (fun _ => Bool) a b c = true) : (c = true ∧ b = true) ∨ (c = false ∧ a = true) := by
  cases c
  · exact .inr ⟨rfl, h⟩
  · exact .inl ⟨rfl, h⟩
theorem bool_tt {b c : Bool} (h : @Bool.rec (fun _ => Bool) false b c = true) : c = true ∧ b = true := by
  cases c
  · cases h
  · exact ⟨rfl, h⟩
theorem opt_t {α : Type} {o : Option α} {f : α → Bool} (h : @Option.rec α (fun _ => Bool) false f o = true) : ∃ x, o = some x ∧ f x = true := by
  cases o
  · cases h
  · exact ⟨_, rfl, h⟩

/-! ### Temporaries -/
theorem sel_get {α : Type} (t : N16 α) : ∀ d : Nat, (sel d).get t = t.get d
  | 0 | 1 | 2 | 3 | 4 | 5 | 6 | 7 | 8 | 9 | 10 | 11 | 12 | 13 | 14 => by cases t; rfl
  | n + 15 => by cases t; rfl
theorem sel_put {α : Type} (t : N16 α) (f : α → (α → Bool) → Bool) (k : N16 α → Bool) : ∀ d : Nat, (sel d).put t f k = f (t.get d) fun v => k (t.put v d)
  | 0 | 1 | 2 | 3 | 4 | 5 | 6 | 7 | 8 | 9 | 10 | 11 | 12 | 13 | 14 => by cases t; rfl
  | n + 15 => by cases t; rfl
theorem xC_eq (n : Nat) (R : RF) (x : AX) : (xC x).run R = ev ⟨n, R, .nil⟩ x := by
  cases x with
  | k v => rfl
  | t i =>
    simp only [xC, ev, Tmps.get]
    cases Nat.blt i 256 with
    | true => simp only [getC, sel_get]
    | false => rfl
theorem dstC_t {n : Nat} {d : Option Nat} {R : RF} {v : AV} {k : RF → Bool} (h : (dstC n d).run R v k = true) : ∃ R', (⟨n, R, .nil⟩ : Tmps).putO d v = ⟨n, R', .nil⟩ ∧ k R' = true := by
  cases d with
  | none => exact ⟨R, rfl, h⟩
  | some i =>
    simp only [dstC] at h
    split at h
    · rename_i h1 h2
      simp only [dstI, sel_put] at h
      refine ⟨_, ?_, h⟩
      simp only [Tmps.putO, Tmps.put]
      rw [h1]
      simp only
      rw [h2]
    · cases h

/-! ### The heap -/
theorem onObj_t {s : St} {id : Nat} {f : AO → Bool} (h : onObj s id f = true) : ∃ o, s.get id = some o ∧ f o = true := by
  unfold onObj at h
  rw [onSt_eq] at h
  obtain ⟨h1, h2⟩ := bool_tt h
  rw [hiddenR_eq] at h2
  rcases bool_t h2 with ⟨_, h3⟩ | ⟨h3, h4⟩
  · cases h3
  · obtain ⟨o, h5, h6⟩ := opt_t h4
    rw [getR_eq] at h5
    refine ⟨o, ?_, h6⟩
    unfold St.get
    rw [show Nat.blt id s.next = true from h1, h3]
    exact h5
theorem onCells_t {s : St} {id : Nat} {f : List AV → Nat → Bool → Bool} (h : onCells s id f = true) : ∃ c el fz, s.cells id = some (c, el, fz) ∧ s.get id = some (.cells c el fz) ∧ f c el fz = true := by
  obtain ⟨o, h1, h2⟩ := onObj_t h
  cases o with
  | cells c el fz => exact ⟨c, el, fz, by unfold St.cells; rw [h1], h1, h2⟩
  | map es => cases h2
  | loop l => cases h2
theorem onLoop_t {s : St} {id : Nat} {f : ALoop → Bool} (h : onLoop s id f = true) : ∃ l, s.get id = some (.loop l) ∧ f l = true := by
  obtain ⟨o, h1, h2⟩ := onObj_t h
  cases o with
  | cells c el fz => cases h2
  | map es => cases h2
  | loop l => exact ⟨l, h1, h2⟩
theorem setF_eq (s : St) (id : Nat) (o : AO) (k : St → Bool) : setF s id o k = k (s.set id o) := by
  unfold setF St.set St.note
  rw [onSt_eq]
  simp only [putR_eq, memNR_eq]
  have e : Nat.ble (Nat.succ id) s.base = Nat.blt id s.base := rfl
  rw [e]
  cases Nat.blt id s.base with
  | false => rfl
  | true => cases memN s.wr id <;> rfl
theorem newF_t {s : St} {o : AO} {k : Nat → St → Bool} (h : newF s o k = true) : Nat.blt s.next big = true ∧ k s.next (s.new o) = true := by
  unfold newF at h
  rw [onSt_eq] at h
  obtain ⟨h1, h2⟩ := bool_tt h
  rw [litN_eq, putR_eq] at h2
  exact ⟨h1, h2⟩

/-! ### Lists -/
theorem onGet_t : ∀ {l : List AV} {i : Nat} {f : AV → Bool}, onGet l i f = true → ∃ a, lget? l i = some a ∧ f a = true
  | [], _, _, h => by cases h
  | a :: _, 0, _, h => ⟨a, rfl, h⟩
  | _ :: l, i + 1, f, h => onGet_t (l := l) (i := i) (f := f) h
theorem onSub_t {c : List AV} {off n : Nat} {f : List AV → Bool} (h : onSub c off n f = true) : ∃ r, slice? c off n = some r ∧ f r = true := by
  unfold onSub at h
  obtain ⟨h1, h2⟩ := bool_tt h
  rw [ltakeR_eq, ldropR_eq] at h1 h2
  rw [llenR_eq] at h1
  refine ⟨_, ?_, h2⟩
  unfold slice?
  simp only
  rw [h1]
theorem partC_t {z : Option Nat} {c : List AV} {off : Nat} {k : AV → Bool} (h : (partC z).run c off k = true) : ∃ v, part? z c off = some v ∧ k v = true := by
  cases z with
  | none =>
    obtain ⟨a, h1, h2⟩ := onGet_t h
    exact ⟨a, h1, h2⟩
  | some n =>
    obtain ⟨r, h1, h2⟩ := onSub_t (f := fun r => k (.agg r)) h
    exact ⟨.agg r, by simp only [part?, h1], h2⟩
theorem setAt_over : ∀ {c : List AV} {off : Nat} {v a : AV}, lget? c off = some a → one v = true → over? c off [v] = some (setAt v c off)
  | b :: c, 0, v, a, h, ho => by
    have : over? (b :: c) 0 [v] = over?.overHead (b :: c) [v] := rfl
    rw [this]
    simp only [over?.overHead, ho]
    cases c <;> rfl
  | b :: c, n + 1, v, a, h, ho => by
    have := setAt_over (c := c) (off := n) (v := v) h ho
    simp only [over?, this]
    rfl
  | [], _, _, _, h, _ => by cases h

/-! ### Arithmetic -/
theorem kc_inj {k k' : IntKind} (h : Nat.beq (kc k) (kc k') = true) : k = k' := by
  cases k <;> cases k' <;> first | rfl | (cases h; done)
theorem int_rec {a : Nat → Bool} {b : Nat → Bool} {n : Int} (h : @Int.rec (fun _ => Bool) a b n = true) : (∃ m, n = .ofNat m ∧ a m = true) ∨ (∃ m, n = .negSucc m ∧ b m = true) := by
  cases n
  · exact .inl ⟨_, rfl, h⟩
  · exact .inr ⟨_, rfl, h⟩
theorem onIntD_t {v : AV} {fb : Bool} {f : IntKind → Int → Bool} (h : onIntD v fb f = true) : (∃ k n, v = .int k n ∧ f k n = true) ∨ fb = true := by
  cases v <;> first | exact .inr h | exact .inl ⟨_, _, rfl, h⟩
theorem onNN_t {x y : AV} {f : IntKind → Nat → Nat → Bool} {fb : Bool} (h : onNN x y f fb = true) : (∃ k a b, x = .int k (.ofNat a) ∧ y = .int k (.ofNat b) ∧ f k a b = true) ∨ fb = true := by
  rcases onIntD_t h with ⟨k, n, rfl, h1⟩ | h1
  · rcases int_rec h1 with ⟨a, rfl, h2⟩ | ⟨a, rfl, h2⟩
    · rcases onIntD_t h2 with ⟨k', m, rfl, h3⟩ | h3
      · rcases int_rec h3 with ⟨b, rfl, h4⟩ | ⟨b, rfl, h4⟩
        · rcases bool_t h4 with ⟨h5, h6⟩ | ⟨_, h6⟩
          · have := kc_inj h5; subst this; exact .inl ⟨_, _, _, rfl, rfl, h6⟩
          · exact .inr h6
        · exact .inr h4
      · exact .inr h3
    · exact .inr h2
  · exact .inr h1
theorem onMM_t {x y : AV} {f : IntKind → Nat → Nat → Bool} {fb : Bool} (h : onMM x y f fb = true) : (∃ k a k' b, x = .int k (.ofNat a) ∧ y = .int k' (.ofNat b) ∧ f k a b = true) ∨ fb = true := by
  rcases onIntD_t h with ⟨k, n, rfl, h1⟩ | h1
  · rcases int_rec h1 with ⟨a, rfl, h2⟩ | ⟨a, rfl, h2⟩
    · rcases onIntD_t h2 with ⟨k', m, rfl, h3⟩ | h3
      · rcases int_rec h3 with ⟨b, rfl, h4⟩ | ⟨b, rfl, h4⟩
        · exact .inl ⟨_, _, _, _, rfl, rfl, h4⟩
        · exact .inr h4
      · exact .inr h3
    · exact .inr h2
  · exact .inr h1
theorem wrapA_small {k : IntKind} {h n : Nat} (hk : half? k = some h) (hn : Nat.ble (Nat.succ n) h = true) (hp : h ≤ pow2 k) : wrapA k (.ofNat n) = .ofNat n := by
  have hlt : n < h := Nat.le_of_ble_eq_true hn
  unfold wrapA wrapN lowA
  rw [hk]
  have : Nat.mod n (pow2 k) = n := Nat.mod_eq_of_lt (Nat.lt_of_lt_of_le hlt hp)
  simp only [this]
  rw [show Nat.blt n h = true from hn]
theorem wrapF_eq (k : IntKind) (n : Nat) (kv : AV → Bool) : wrapF k n kv = kv (.int k (wrapA k (.ofNat n))) := by
  have sg : ∀ (k : IntKind) (h : Nat), half? k = some h → h ≤ pow2 k → @Bool.rec (fun _ => Bool) (kv (.int k (wrapA k (.ofNat n)))) (litN n fun n => kv (.int k (.ofNat n))) (Nat.ble (Nat.succ n) h) = kv (.int k (wrapA k (.ofNat n))) := fun k h hk hp => by
    cases hb : Nat.ble (Nat.succ n) h with
    | false => rfl
    | true => show litN n _ = _; rw [litN_eq, wrapA_small hk hb hp]
  have un : ∀ (k : IntKind) (p : Nat), half? k = none → pow2 k = p → litN (Nat.mod n p) (fun r => kv (.int k (.ofNat r))) = kv (.int k (wrapA k (.ofNat n))) := fun k p hk hp => by
    rw [litN_eq]
    unfold wrapA wrapN lowA
    rw [hk, hp]
  cases k
  · exact sg .i8 128 rfl (by decide)
  · exact sg .i16 32768 rfl (by decide)
  · exact sg .i32 2147483648 rfl (by decide)
  · exact sg .i64 9223372036854775808 rfl (by decide)
  · exact un .u8 256 rfl rfl
  · exact un .u16 65536 rfl rfl
  · exact un .u32 4294967296 rfl rfl
  · exact un .u64 18446744073709551616 rfl rfl

end Go.Qa
end

/- The fast machine is sound: operations. -/
section
namespace Go.Qa
variable {prog : Nat → Option AFun}

theorem binA_int {op : BinOp} {k : IntKind} {a b : Int} (h1 : op ≠ .shl) (h2 : op ≠ .shr) : binA op (.int k a) (.int k b) = binInt op k a b := by
  unfold binA
  have : kindEq k k = true := by cases k <;> rfl
  cases op <;> first | (exact absurd rfl h1) | (exact absurd rfl h2) | (simp only [this])
theorem binG_t {op : BinOp} {x y : AV} {kv : AV → Bool} (h : binG op x y kv = true) : ∃ v, binA op x y = some v ∧ kv v = true := by
  unfold binG at h
  obtain ⟨v, h1, h2⟩ := opt_t h
  rw [binAR_eq] at h1
  rw [fv_eq] at h2
  exact ⟨v, h1, h2⟩
theorem boolF_eq (b : Bool) (kv : AV → Bool) : boolF b kv = kv (.bool b) := by cases b <;> rfl
theorem notR_eq (b : Bool) : notR b = !b := by cases b <;> rfl
theorem wrapN_un {k : IntKind} (h : half? k = none) (n : Nat) : wrapN k n = .ofNat n := by unfold wrapN; rw [h]
theorem bitF_t {k : IntKind} {a b : Nat} {g : Nat → Nat → Nat} {fb : Bool} {kv : AV → Bool} (h : bitF k a b g fb kv = true) : (kv (.int k (wrapN k (g (lowA (pow2 k) (.ofNat a)) (lowA (pow2 k) (.ofNat b))))) = true) ∨ fb = true := by
  have un : ∀ (k : IntKind) (p : Nat), half? k = none → pow2 k = p → litN (g (Nat.mod a p) (Nat.mod b p)) (fun r => kv (.int k (.ofNat r))) = true → kv (.int k (wrapN k (g (lowA (pow2 k) (.ofNat a)) (lowA (pow2 k) (.ofNat b))))) = true := fun k p hk hp hh => by
    rw [litN_eq] at hh
    rw [wrapN_un hk, hp]
    exact hh
  cases k
  · exact .inr h
  · exact .inr h
  · exact .inr h
  · exact .inr h
  · exact .inl (un .u8 256 rfl rfl h)
  · exact .inl (un .u16 65536 rfl rfl h)
  · exact .inl (un .u32 4294967296 rfl rfl h)
  · exact .inl (un .u64 18446744073709551616 rfl rfl h)

theorem binC_t {op : BinOp} {x y : AV} {kv : AV → Bool} (h : (binC op).run x y kv = true) : ∃ v, binA op x y = some v ∧ kv v = true := by
  cases op
  case add =>
    rcases onNN_t h with ⟨k, a, b, rfl, rfl, h1⟩ | h1
    · rw [wrapF_eq] at h1
      exact ⟨_, by rw [binA_int (by simp) (by simp)]; rfl, h1⟩
    · exact binG_t h1
  case sub =>
    rcases onNN_t h with ⟨k, a, b, rfl, rfl, h1⟩ | h1
    · rcases bool_t h1 with ⟨h2, h3⟩ | ⟨_, h3⟩
      · rw [wrapF_eq] at h3
        refine ⟨_, by rw [binA_int (by simp) (by simp)]; rfl, ?_⟩
        have hle : b ≤ a := Nat.le_of_ble_eq_true h2
        have : Int.sub (Int.ofNat a) (Int.ofNat b) = Int.ofNat (Nat.sub a b) := by
          show (a : Int) - (b : Int) = ((a - b : Nat) : Int)
          omega
        rw [this]
        exact h3
      · exact binG_t h3
    · exact binG_t h1
  case mul =>
    rcases onNN_t h with ⟨k, a, b, rfl, rfl, h1⟩ | h1
    · rw [wrapF_eq] at h1
      exact ⟨_, by rw [binA_int (by simp) (by simp)]; rfl, h1⟩
    · exact binG_t h1
  case and =>
    rcases onNN_t h with ⟨k, a, b, rfl, rfl, h1⟩ | h1
    · rcases bitF_t h1 with h2 | h2
      · exact ⟨_, by rw [binA_int (by simp) (by simp)]; rfl, h2⟩
      · exact binG_t h2
    · exact binG_t h1
  case or =>
    rcases onNN_t h with ⟨k, a, b, rfl, rfl, h1⟩ | h1
    · rcases bitF_t h1 with h2 | h2
      · exact ⟨_, by rw [binA_int (by simp) (by simp)]; rfl, h2⟩
      · exact binG_t h2
    · exact binG_t h1
  case xor =>
    rcases onNN_t h with ⟨k, a, b, rfl, rfl, h1⟩ | h1
    · rcases bitF_t h1 with h2 | h2
      · exact ⟨_, by rw [binA_int (by simp) (by simp)]; rfl, h2⟩
      · exact binG_t h2
    · exact binG_t h1
  case shl =>
    rcases onMM_t h with ⟨k, a, k', b, rfl, rfl, h1⟩ | h1
    · rw [wrapF_eq] at h1
      exact ⟨_, rfl, h1⟩
    · exact binG_t h1
  case shr =>
    rcases onMM_t h with ⟨k, a, k', b, rfl, rfl, h1⟩ | h1
    · rw [litN_eq] at h1
      exact ⟨_, rfl, h1⟩
    · exact binG_t h1
  case eql =>
    rcases onNN_t h with ⟨k, a, b, rfl, rfl, h1⟩ | h1
    · rw [boolF_eq] at h1
      exact ⟨_, by rw [binA_int (by simp) (by simp)]; rfl, h1⟩
    · exact binG_t h1
  case neq =>
    rcases onNN_t h with ⟨k, a, b, rfl, rfl, h1⟩ | h1
    · rw [boolF_eq, notR_eq] at h1
      exact ⟨_, by rw [binA_int (by simp) (by simp)]; rfl, h1⟩
    · exact binG_t h1
  case lss =>
    rcases onNN_t h with ⟨k, a, b, rfl, rfl, h1⟩ | h1
    · rw [boolF_eq] at h1
      exact ⟨_, by rw [binA_int (by simp) (by simp)]; rfl, h1⟩
    · exact binG_t h1
  case leq =>
    rcases onNN_t h with ⟨k, a, b, rfl, rfl, h1⟩ | h1
    · rw [boolF_eq] at h1
      refine ⟨_, by rw [binA_int (by simp) (by simp)]; rfl, ?_⟩
      have : (!(intLt (Int.ofNat b) (Int.ofNat a))) = Nat.ble a b := by
        show (!(Nat.blt b a)) = Nat.ble a b
        rw [blt_iff, ble_iff]
        by_cases hh : b < a
        · rw [decide_eq_true hh, decide_eq_false (by omega)]; rfl
        · rw [decide_eq_false hh, decide_eq_true (by omega)]; rfl
      rw [this]; exact h1
    · exact binG_t h1
  case gtr =>
    rcases onNN_t h with ⟨k, a, b, rfl, rfl, h1⟩ | h1
    · rw [boolF_eq] at h1
      exact ⟨_, by rw [binA_int (by simp) (by simp)]; rfl, h1⟩
    · exact binG_t h1
  case geq =>
    rcases onNN_t h with ⟨k, a, b, rfl, rfl, h1⟩ | h1
    · rw [boolF_eq] at h1
      refine ⟨_, by rw [binA_int (by simp) (by simp)]; rfl, ?_⟩
      have : (!(intLt (Int.ofNat a) (Int.ofNat b))) = Nat.ble b a := by
        show (!(Nat.blt a b)) = Nat.ble b a
        rw [blt_iff, ble_iff]
        by_cases hh : a < b
        · rw [decide_eq_true hh, decide_eq_false (by omega)]; rfl
        · rw [decide_eq_false hh, decide_eq_true (by omega)]; rfl
      rw [this]; exact h1
    · exact binG_t h1
  all_goals exact binG_t h

theorem eqG_t {t : EqT} {s : St} {x y : AV} {k : Bool → Bool} (h : eqG t s x y k = true) : ∃ b, eqA s 12 t x y = some b ∧ k b = true := opt_t h
theorem eqC_t {t : EqT} {s : St} {x y : AV} {k : Bool → Bool} (h : (eqC t).run s x y k = true) : ∃ b, eqA s 12 t x y = some b ∧ k b = true := by
  cases t
  case ptr =>
    rcases onNil_t h with ⟨rfl, h1⟩ | ⟨_, h1⟩
    · rcases onNil_t h1 with ⟨rfl, h2⟩ | ⟨_, h2⟩
      · exact ⟨true, rfl, h2⟩
      · rcases onPtrD_t h2 with ⟨i, o, rfl, h3⟩ | h3
        · exact ⟨false, rfl, h3⟩
        · exact eqG_t h3
    · rcases onPtrD_t h1 with ⟨i, o, rfl, h2⟩ | h2
      · rcases onNil_t h2 with ⟨rfl, h3⟩ | ⟨_, h3⟩
        · exact ⟨false, rfl, h3⟩
        · exact eqG_t h3
      · exact eqG_t h2
  case sl =>
    rcases onNilS_t h with ⟨rfl, h1⟩ | ⟨_, h1⟩
    · rcases onNilS_t h1 with ⟨rfl, h2⟩ | ⟨_, h2⟩
      · exact ⟨true, rfl, h2⟩
      · rcases onSlD_t h2 with ⟨i, o, l, ⟨c, rfl⟩ | ⟨e, rfl⟩, h3⟩ | h3
        · exact ⟨false, rfl, h3⟩
        · exact ⟨false, rfl, h3⟩
        · exact eqG_t h3
    · exact eqG_t h1
  all_goals exact eqG_t h

theorem convF_t {k : IntKind} {x : AV} {kv : AV → Bool} (h : convF k x kv = true) : ∃ k' n, x = .int k' n ∧ kv (.int k (wrapA k n)) = true := by
  obtain ⟨k', n, rfl, h1⟩ := onInt_t h
  rcases int_rec h1 with ⟨m, rfl, h2⟩ | ⟨m, rfl, h2⟩
  · rw [wrapF_eq] at h2; exact ⟨_, _, rfl, h2⟩
  · exact ⟨_, _, rfl, h2⟩

/-! ### Reading operands ahead -/
section
variable {n : Nat} {R : RF}
theorem kC_eq (x : AX) : ev noT (kC x R) = ev ⟨n, R, .nil⟩ x := by
  unfold kC; simp only [ev]; exact xC_eq n R x
theorem kCo_eq (x : Option AX) (d top : Nat) : bound? (kCo x R) noT d top = bound? x ⟨n, R, .nil⟩ d top := by
  cases x with
  | none => rfl
  | some x => simp only [kCo, bound?]; rw [kC_eq (n := n)]
theorem kCs_eq : ∀ l : List AX, evs noT ((kCs l).run R) = evs ⟨n, R, .nil⟩ l
  | [] => rfl
  | x :: l => by
    show ev noT (kC x R) :: evs noT ((kCs l).run R) = _
    rw [kC_eq (n := n), kCs_eq l]; rfl
theorem kCp_eq : ∀ l : List (Nat × Nat × AX), evParts noT ((kCp l).run R) = evParts ⟨n, R, .nil⟩ l
  | [] => rfl
  | (a, b, x) :: l => by
    show (a, b, ev noT (kC x R)) :: evParts noT ((kCp l).run R) = _
    rw [kC_eq (n := n), kCp_eq l]; rfl
theorem kCo_none (x : Option AX) : (kCo x R = none) = (x = none) := by cases x <;> simp [kCo]
theorem litC_eq (o : AOp) (s : St) : opA ((litC o).run R) noT s = opA o ⟨n, R, .nil⟩ s := by
  cases o <;> simp only [litC, opA, op_mv, op_pick, op_new, op_box, op_build, op_buildS, op_load, op_store, op_nilck, op_bin, op_eq, op_un, op_conv, op_s2ap, op_mkfn, op_mkmap, op_mksl, op_slStr, op_slArr, op_faddr, op_field, op_iaddrA, op_iaddrS, op_indexA, op_indexS, op_lookup, op_mapup, op_extract, op_call, op_append, op_appendZ, op_copy, op_lenS, op_lenStr, op_lenA, op_lenM, op_capS, op_clearM, op_clearS, op_delete, op_min2, op_max2, op_sdata, op_ustr, kC_eq (n := n), kCo_eq (n := n), kCs_eq (n := n), kCp_eq (n := n)]
  rename_i esz x lo hi mx
  simp only [op_slSl, kC_eq (n := n), kCo_eq (n := n)]
  cases ev ⟨n, R, .nil⟩ x <;> first | rfl | skip
  rename_i id off len e
  simp only
  cases Nat.beq e esz <;> cases mx <;> rfl
theorem argC_t : ∀ {l : List AX} {k : List AV → Bool}, (argC l).run R k = true → k (evs ⟨n, R, .nil⟩ l) = true
  | [], _, h => h
  | x :: l, k, h => by
    have h : fv ((xC x).run R) (fun v => (argC l).run R fun l => k (v :: l)) = true := h
    rw [fv_eq, xC_eq n] at h
    exact argC_t (l := l) (k := fun t => k (ev ⟨n, R, .nil⟩ x :: t)) h
end

/-! ### Operations that touch nothing -/
theorem free_same {o : AOp} (hf : isFree o = true) {T : Tmps} {s s' : St} {nx : ANext} (h : opA o T s = some (nx, s')) : s' = s ∧ ∃ v, nx = .val v ∧ ∀ t : St, opA o T t = some (.val v, t) := by
  cases o
  case conv c x =>
    cases c <;> first | (cases hf; done) | skip
    all_goals
      simp only [opA, op_conv] at h ⊢
      cases hx : ev T x <;> rw [hx] at h <;> first | (cases h; done) | skip
      have := val_st h; subst this
      injection h with h; injection h with h1 h2; subst h1
      exact ⟨rfl, _, rfl, fun t => rfl⟩
  all_goals first | (cases hf; done) | skip
  all_goals simp only [opA, op_mv, op_pick, op_build, op_nilck, op_bin, op_un, op_s2ap, op_mkfn, op_slStr, op_slSl, op_slArr, op_faddr, op_field, op_iaddrA, op_iaddrS, op_indexA, op_indexS, op_extract, op_lenS, op_lenStr, op_lenA, op_capS, op_min2, op_max2, op_sdata, val, val?] at h ⊢
  all_goals (repeat' split at h)
  all_goals first | (cases h; done) | skip
  all_goals
    injection h with h; injection h with h1 h2; subst h1; subst h2
    refine ⟨rfl, _, rfl, fun t => ?_⟩
    first | rfl | simp_all

end Go.Qa
end

/- The fast machine is sound: each operation's closure. -/
section
namespace Go.Qa
variable {prog : Nat → Option AFun}

def FSound (prog : Nat → Option AFun) (c : FCall) : Prop := ∀ f args s k, c f args s k = true → ∃ v s', CallsA prog f args s v s' ∧ k v s' = true
def RSound (prog : Nat → Option AFun) (c : FCall) : Prop := ∀ l args s k, c l args s k = true → ∃ v s', RoundsA prog l args s v s' ∧ k v s' = true

theorem opA_val {o : AOp} {T : Tmps} {s s' : St} {v : AV} (h : opA o T s = some (.val v, s')) : OpA prog o T s v s' := ⟨0, by unfold doOp; rw [h]⟩
theorem opA_enters {o : AOp} {T : Tmps} {s s' s'' : St} {v : AV} {f : Nat} {args : List AV} (h : opA o T s = some (.enter f args, s')) (hc : CallsA prog f args s' v s'') : OpA prog o T s v s'' := by
  obtain ⟨n, hn⟩ := hc
  exact ⟨n, by unfold doOp; rw [h]; exact hn⟩
theorem opA_rounds {o : AOp} {T : Tmps} {s s' s'' : St} {v : AV} {f : Nat} {args : List AV} (h : opA o T s = some (.round f args, s')) (hc : RoundsA prog f args s' v s'') : OpA prog o T s v s'' := by
  obtain ⟨n, hn⟩ := hc
  exact ⟨n, by unfold doOp; rw [h]; exact hn⟩

section
variable {call round : FCall} {n : Nat} {R : RF} {s : St} {k : KV}

theorem opG_t {o : AOp} (hc : FSound prog call) (hr : RSound prog round) (h : (opG o).run call round R s k = true) : ∃ v s', OpA prog o ⟨n, R, .nil⟩ s v s' ∧ k v s' = true := by
  unfold opG at h
  split at h
  · rename_i hf
    simp only at h
    rw [opAR_eq, litC_eq (n := n)] at h
    split at h <;> first | (cases h; done) | skip
    rename_i v s' hop
    rw [fv_eq] at h
    obtain ⟨h1, _⟩ := free_same hf hop
    subst h1
    exact ⟨v, _, opA_val hop, h⟩
  · simp only at h
    rw [opAR_eq, litC_eq (n := n)] at h
    split at h <;> first | (cases h; done) | skip
    · rename_i v s' hop
      rw [fv_eq, normS_eq] at h
      exact ⟨v, _, opA_val hop, h⟩
    · rename_i f args s' hop
      obtain ⟨v, s'', h1, h2⟩ := hc _ _ _ _ h
      exact ⟨v, s'', opA_enters hop h1, h2⟩
    · rename_i f args s' hop
      obtain ⟨v, s'', h1, h2⟩ := hr _ _ _ _ h
      exact ⟨v, s'', opA_rounds hop h1, h2⟩

theorem cells_single {v a : AV} (h : v.cells = [a]) (ho : one a = true) : llen v.cells = 1 ∧ v.cells = [a] := by rw [h]; exact ⟨rfl, rfl⟩

theorem store1_t {x v : AX} (h : (opC (.store 1 x v)).run call round R s k = true) : ∃ w s', opA (.store 1 x v) ⟨n, R, .nil⟩ s = some (.val w, s') ∧ k w s' = true := by
  have h : onPtr ((xC x).run R) (fun id off => onCells s id fun c el fz => fv ((xC v).run R) fun w => @List.rec AV (fun _ => Bool) false
        (fun a t _ => @List.rec AV (fun _ => Bool) (@Bool.rec (fun _ => Bool) false (onGet c off fun _ => setF s id (.cells (setAt a c off) el fz) fun s' => k .undef s') (oneR a)) (fun _ _ _ => false) t) (cellsR w)) = true := h
  obtain ⟨id, off, hx, h⟩ := onPtr_t h
  obtain ⟨c, el, fz, hcs, _, h⟩ := onCells_t h
  rw [fv_eq, cellsR_eq] at h
  rw [xC_eq n] at h hx
  generalize hw : (ev ⟨n, R, .nil⟩ v).cells = w at h
  cases w with
  | nil => cases h
  | cons a t =>
    cases t with
    | cons b t => cases h
    | nil =>
      obtain ⟨ho, h⟩ := bool_tt h
      obtain ⟨b, hb, h⟩ := onGet_t h
      rw [setF_eq] at h
      rw [oneR_eq] at ho
      refine ⟨.undef, _, ?_, h⟩
      simp only [opA, op_store]
      rw [hx]
      simp only
      rw [hcs]
      simp only
      rw [hw, setAt_over hb ho]
      rfl

theorem opC_t {o : AOp} (hc : FSound prog call) (hr : RSound prog round) (h : (opC o).run call round R s k = true) : ∃ v s', OpA prog o ⟨n, R, .nil⟩ s v s' ∧ k v s' = true := by
  cases o
  case mv x =>
    have h : fv ((xC x).run R) (fun v => k v s) = true := h
    rw [fv_eq, xC_eq n] at h
    exact ⟨_, _, opA_val rfl, h⟩
  case pick c a b =>
    have h : onBool ((xC c).run R) (fun t => @Bool.rec (fun _ => Bool) (fv ((xC b).run R) fun v => k v s) (fv ((xC a).run R) fun v => k v s) t) = true := h
    obtain ⟨t, ht, h⟩ := onBool_t h
    rw [xC_eq n] at ht
    rcases bool_t h with ⟨h1, h2⟩ | ⟨h1, h2⟩
    · subst h1
      rw [fv_eq, xC_eq n] at h2
      exact ⟨_, _, opA_val (by simp only [opA, op_pick, ht]; rfl), h2⟩
    · subst h1
      rw [fv_eq, xC_eq n] at h2
      exact ⟨_, _, opA_val (by simp only [opA, op_pick, ht]; rfl), h2⟩
  case load sz x =>
    have h : onPtr ((xC x).run R) (fun id off => onCells s id fun c _ _ => (partC sz).run c off fun v => fv v fun v => k v s) = true := h
    obtain ⟨id, off, hx, h⟩ := onPtr_t h
    obtain ⟨c, el, fz, hcs, _, h⟩ := onCells_t h
    obtain ⟨v, hv, h⟩ := partC_t h
    rw [fv_eq] at h
    rw [xC_eq n] at hx
    exact ⟨v, s, opA_val (by simp only [opA, op_load, hx, hcs, hv, val?]), h⟩
  case store sz x v =>
    cases hz : Nat.beq sz 1 with
    | true =>
      have := Nat.eq_of_beq_eq_true hz
      subst this
      obtain ⟨w, s', h1, h2⟩ := store1_t (n := n) h
      exact ⟨w, s', opA_val h1, h2⟩
    | false =>
      have h : (match Nat.beq sz 1 with
        | true => (opC (.store 1 x v))
        | false => opG (.store sz x v)).run call round R s k = true := by
        simp only [opC, hz] at h
        rw [hz]; exact h
      rw [hz] at h
      exact opG_t hc hr h
  case new elem zero =>
    have h : newF s (.cells zero elem false) (fun id s' => k (.ptr id Nat.zero) s') = true := h
    obtain ⟨h1, h2⟩ := newF_t h
    exact ⟨_, _, opA_val (by simp only [opA, op_new, h1]; rfl), h2⟩
  case box elem x =>
    have h : fv ((xC x).run R) (fun v => newF s (.cells (cellsR v) elem false) fun id s' => k (.ptr id Nat.zero) s') = true := h
    rw [fv_eq, cellsR_eq, xC_eq n] at h
    obtain ⟨h1, h2⟩ := newF_t h
    exact ⟨_, _, opA_val (by simp only [opA, op_box, h1]; rfl), h2⟩
  case faddr off x =>
    have h : onPtr ((xC x).run R) (fun id o => litN (Nat.add o off) fun q => k (.ptr id q) s) = true := h
    obtain ⟨id, o, hx, h⟩ := onPtr_t h
    rw [litN_eq] at h
    rw [xC_eq n] at hx
    exact ⟨_, _, opA_val (by simp only [opA, op_faddr, hx]; rfl), h⟩
  case iaddrA m esz x i =>
    have h : onPtr ((xC x).run R) (fun id off => onInt ((xC i).run R) fun _ j => @Int.rec (fun _ => Bool) (fun j => @Bool.rec (fun _ => Bool) false (litN (Nat.add off (Nat.mul j esz)) fun q => k (.ptr id q) s) (Nat.ble (Nat.succ j) m)) (fun _ => false) j) = true := h
    obtain ⟨id, off, hx, h⟩ := onPtr_t h
    obtain ⟨q, j, hj, h⟩ := onInt_t h
    rcases int_rec h with ⟨j', rfl, h⟩ | ⟨j', rfl, h⟩
    · obtain ⟨h1, h⟩ := bool_tt h
      rw [litN_eq] at h
      rw [xC_eq n] at hx hj
      refine ⟨_, _, opA_val (s' := s) ?_, h⟩
      simp only [opA, op_iaddrA, hx, hj, natOf]
      rw [show Nat.blt j' m = true from h1]
      rfl
    · cases h
  case iaddrS esz x i =>
    have h : onSl ((xC x).run R) (fun id off len => onInt ((xC i).run R) fun _ j => @Int.rec (fun _ => Bool) (fun j => @Bool.rec (fun _ => Bool) false (litN (Nat.add off (Nat.mul j esz)) fun q => k (.ptr id q) s) (Nat.ble (Nat.succ j) len)) (fun _ => false) j) = true := h
    obtain ⟨id, off, len, hx, h⟩ := onSl_t h
    obtain ⟨q, j, hj, h⟩ := onInt_t h
    rcases int_rec h with ⟨j', rfl, h⟩ | ⟨j', rfl, h⟩
    · obtain ⟨h1, h⟩ := bool_tt h
      rw [litN_eq] at h
      rw [xC_eq n] at hx hj
      have h1 : Nat.blt j' len = true := h1
      refine ⟨_, _, opA_val (s' := s) ?_, h⟩
      rcases hx with ⟨c, hx⟩ | ⟨c, hx⟩
      · simp only [opA, op_iaddrS, hx, hj, natOf]; rw [h1]; rfl
      · simp only [opA, op_iaddrS, hx, hj, natOf]; rw [h1]; rfl
    · cases h
  case lenS x =>
    have h : onNilS ((xC x).run R) (k (.int .i64 (.ofNat Nat.zero)) s) (onSl ((xC x).run R) fun _ _ n => k (.int .i64 (.ofNat n)) s) = true := h
    rcases onNilS_t h with ⟨hx, h⟩ | ⟨_, h⟩
    · rw [xC_eq n] at hx
      exact ⟨_, _, opA_val (by simp only [opA, op_lenS, hx]; rfl), h⟩
    · obtain ⟨id, off, len, hx, h⟩ := onSl_t h
      rw [xC_eq n] at hx
      rcases hx with ⟨c, hx⟩ | ⟨c, hx⟩
      · exact ⟨_, _, opA_val (by simp only [opA, op_lenS, hx]; rfl), h⟩
      · exact ⟨_, _, opA_val (by simp only [opA, op_lenS, hx]; rfl), h⟩
  case bin op x y =>
    have h : (binC op).run ((xC x).run R) ((xC y).run R) (fun v => k v s) = true := h
    obtain ⟨v, hv, h⟩ := binC_t h
    rw [xC_eq n, xC_eq n] at hv
    exact ⟨v, s, opA_val (by simp only [opA, op_bin, hv, val?]), h⟩
  case eq neg t x y =>
    cases neg with
    | false =>
      have h : (eqC t).run s ((xC x).run R) ((xC y).run R) (fun b => boolF b fun v => k v s) = true := h
      obtain ⟨b, hb, h⟩ := eqC_t h
      rw [boolF_eq] at h
      rw [xC_eq n, xC_eq n] at hb
      exact ⟨_, _, opA_val (by simp only [opA, op_eq, hb]; rfl), h⟩
    | true =>
      have h : (eqC t).run s ((xC x).run R) ((xC y).run R) (fun b => boolF (notR b) fun v => k v s) = true := h
      obtain ⟨b, hb, h⟩ := eqC_t h
      rw [boolF_eq, notR_eq] at h
      rw [xC_eq n, xC_eq n] at hb
      exact ⟨_, _, opA_val (by simp only [opA, op_eq, hb]; rfl), h⟩
  case conv c x =>
    cases c
    case int q =>
      have h : convF q ((xC x).run R) (fun v => k v s) = true := h
      obtain ⟨k', m, hx, h⟩ := convF_t h
      rw [xC_eq n] at hx
      exact ⟨_, _, opA_val (by simp only [opA, op_conv, hx]; rfl), h⟩
    all_goals exact opG_t hc hr h
  case un op x =>
    cases op
    case not =>
      have h : onBool ((xC x).run R) (fun b => boolF (notR b) fun v => k v s) = true := h
      obtain ⟨b, hb, h⟩ := onBool_t h
      rw [boolF_eq, notR_eq] at h
      rw [xC_eq n] at hb
      exact ⟨_, _, opA_val (by simp only [opA, op_un, hb, unA, val?]), h⟩
    all_goals exact opG_t hc hr h
  case extract x i =>
    have h : onTup ((xC x).run R) (fun l => onGet l i fun v => fv v fun v => k v s) = true := h
    obtain ⟨l, hl, h⟩ := onTup_t h
    obtain ⟨v, hv, h⟩ := onGet_t h
    rw [fv_eq] at h
    rw [xC_eq n] at hl
    exact ⟨v, s, opA_val (by simp only [opA, op_extract, hl, hv, val?]), h⟩
  case nilck x =>
    have h : onRef ((xC x).run R) (fun v => k v s) = true := h
    obtain ⟨h1, h⟩ := onRef_t h
    rw [xC_eq n] at h1 h
    rcases h1 with ⟨i, o, h1⟩ | ⟨fn, a, b, h1⟩
    · exact ⟨_, _, opA_val (by simp only [opA, op_nilck, h1]; rfl), by rw [h1] at h; exact h⟩
    · exact ⟨_, _, opA_val (by simp only [opA, op_nilck, h1]; rfl), by rw [h1] at h; exact h⟩
  case call f args =>
    have gen : ∀ f : AX, (argC args).run R (fun l => callV call round ((xC f).run R) l s k) = true → ∃ v s', OpA prog (.call f args) ⟨n, R, .nil⟩ s v s' ∧ k v s' = true := by
      intro f h
      have h := argC_t (n := n) h
      unfold callV at h
      obtain ⟨fn, a, b, hf, h⟩ := onFunc_t h
      rw [xC_eq n] at hf
      split at h <;> first | (cases h; done) | skip
      · rename_i g a' b'
        rw [appR_eq, appR_eq] at h
        obtain ⟨v, s', h1, h2⟩ := hc _ _ _ _ h
        refine ⟨v, s', opA_enters (s' := s) ?_ h1, h2⟩
        simp only [opA, op_call, hf, List.append_assoc]
      · rename_i l
        obtain ⟨v, s', h1, h2⟩ := hr _ _ _ _ h
        exact ⟨v, s', opA_rounds (s' := s) (by simp only [opA, op_call, hf]) h1, h2⟩
    have direct : ∀ g : Nat, (argC args).run R (fun l => call g l s k) = true → ∃ v s', OpA prog (.call (.k (.func (.func g) [] [])) args) ⟨n, R, .nil⟩ s v s' ∧ k v s' = true := by
      intro g h
      have h := argC_t (n := n) h
      obtain ⟨v, s', h1, h2⟩ := hc _ _ _ _ h
      exact ⟨v, s', opA_enters (s' := s) (by simp [opA, op_call, ev]) h1, h2⟩
    unfold opC at h
    split at h <;> rename_i heq <;> first | (cases heq; done) | skip
    · injection heq with e1 e2; subst e1; subst e2; exact direct _ h
    · injection heq with e1 e2; subst e1; subst e2; exact gen _ h
    · exact opG_t hc hr h
  all_goals exact opG_t hc hr h
end

end Go.Qa
end

/- The fast machine is sound: regions. -/
section
namespace Go.Qa
variable {prog : Nat → Option AFun}

theorem onBoolD_t {v : AV} {fb : Bool} {f : Bool → Bool} (h : onBoolD v fb f = true) : (∃ b, v = .bool b ∧ f b = true) ∨ ((∀ b, v ≠ .bool b) ∧ fb = true) := by
  cases v <;> first | exact .inl ⟨_, rfl, h⟩ | exact .inr ⟨fun b e => (by cases e), h⟩
theorem guard_f {T : Tmps} {t : Nat} {w : Bool} (h : ∀ b, T.get t ≠ .bool b) : guardOk (some (t, w)) T = false := by
  unfold guardOk
  cases hx : T.get t <;> first | exact absurd hx (h _) | simp [hx]
theorem guard_b {T : Tmps} {t : Nat} {w b : Bool} (h : T.get t = .bool b) : guardOk (some (t, w)) T = boolEq b w := by
  unfold guardOk
  simp only [h]

theorem OpsA.skip {o : AOper} {l : List AOper} {T T' : Tmps} {s s' : St} (hg : guardOk o.guard T = false) (h : OpsA prog l (T.putO o.dst .undef) s T' s') : OpsA prog (o :: l) T s T' s' := by
  obtain ⟨n, hn⟩ := h
  exact ⟨n, by simp only [runOps, hg]; exact hn⟩
theorem OpsA.cons {o : AOper} {l : List AOper} {T T' : Tmps} {s s1 s' : St} {v : AV} (hg : guardOk o.guard T = true) (h1 : OpA prog o.op T s v s1) (h : OpsA prog l (T.putO o.dst v) s1 T' s') : OpsA prog (o :: l) T s T' s' := by
  obtain ⟨n, hn⟩ := h
  obtain ⟨m, hm⟩ := h1
  refine ⟨max n m, ?_⟩
  simp only [runOps, hg]
  rw [doOp_mono (callLe (Nat.le_max_right n m)) (roundLe (Nat.le_max_right n m)) hm]
  exact runOps_mono (callLe (Nat.le_max_left n m)) (roundLe (Nat.le_max_left n m)) hn

theorem opsC_t {call round : FCall} {n : Nat} (hc : FSound prog call) (hr : RSound prog round) : ∀ {l : List AOper} {R : RF} {s : St} {k : RF → St → Bool}, (opsC n l).run call round R s k = true → ∃ R' s', OpsA prog l ⟨n, R, .nil⟩ s ⟨n, R', .nil⟩ s' ∧ k R' s' = true
  | [], R, s, k, h => ⟨R, s, ⟨0, rfl⟩, h⟩
  | o :: l, R, s, k, h => by
    have skip : guardOk o.guard ⟨n, R, .nil⟩ = false → (dstC n o.dst).run R .undef (fun R' => (opsC n l).run call round R' s k) = true → ∃ R' s', OpsA prog (o :: l) ⟨n, R, .nil⟩ s ⟨n, R', .nil⟩ s' ∧ k R' s' = true := fun hg h => by
      obtain ⟨R1, e1, h⟩ := dstC_t h
      obtain ⟨R', s', h1, h2⟩ := opsC_t hc hr h
      exact ⟨R', s', .skip hg (by rw [e1]; exact h1), h2⟩
    have go : guardOk o.guard ⟨n, R, .nil⟩ = true → (opC o.op).run call round R s (fun v s' => (dstC n o.dst).run R v fun R' => (opsC n l).run call round R' s' k) = true → ∃ R' s', OpsA prog (o :: l) ⟨n, R, .nil⟩ s ⟨n, R', .nil⟩ s' ∧ k R' s' = true := fun hg h => by
      obtain ⟨v, s1, h1, h⟩ := opC_t (n := n) hc hr h
      obtain ⟨R1, e1, h⟩ := dstC_t h
      obtain ⟨R', s', h2, h3⟩ := opsC_t hc hr h
      exact ⟨R', s', .cons hg h1 (by rw [e1]; exact h2), h3⟩
    obtain ⟨dst, guard, op, uno⟩ := o
    cases guard with
    | none => exact go rfl h
    | some g =>
      obtain ⟨t, w⟩ := g
      have h : onBoolD ((xC (.t t)).run R) ((dstC n dst).run R .undef fun R' => (opsC n l).run call round R' s k) (fun b => @Bool.rec (fun _ => Bool)
          ((dstC n dst).run R .undef fun R' => (opsC n l).run call round R' s k)
          ((opC op).run call round R s fun v s' => (dstC n dst).run R v fun R' => (opsC n l).run call round R' s' k) (boolEq b w)) = true := h
      rcases onBoolD_t h with ⟨b, hb, h⟩ | ⟨hb, h⟩
      · rw [xC_eq n] at hb
        rcases bool_t h with ⟨h1, h⟩ | ⟨h1, h⟩
        · exact go (by rw [guard_b (show Tmps.get _ t = _ from hb)]; exact h1) h
        · exact skip (by rw [guard_b (show Tmps.get _ t = _ from hb)]; exact h1) h
      · rw [xC_eq n] at hb
        exact skip (guard_f hb) h

/-! ### Drawn regions -/
theorem disjR_eq : ∀ w b : List Nat, disjR w b = disj w b
  | [], b => by cases b <;> rfl
  | x :: w, b => by
    show @Bool.rec (fun _ => Bool) (disjR w b) false (memNR b x) = _
    rw [disjR_eq w b, memNR_eq]; simp only [disj]; cases memN b x <;> rfl
theorem outsideR_eq : ∀ (a : List Nat) (lo hi : Nat), outsideR a lo hi = outside a lo hi
  | [], _, _ => rfl
  | x :: a, lo, hi => by
    show @Bool.rec (fun _ => Bool) (outsideR a lo hi) (@Bool.rec (fun _ => Bool) (outsideR a lo hi) false (Nat.blt x hi)) (Nat.ble lo x) = _
    rw [outsideR_eq a lo hi]; simp only [outside]; cases Nat.ble lo x <;> cases Nat.blt x hi <;> rfl
theorem apartWRR_eq (w : List Nat) (rd : Option (List Nat)) : apartWRR w rd = apartWR w rd := by
  cases w with
  | nil => rfl
  | cons x r =>
    cases rd with
    | none => rfl
    | some l => show disjR (x :: r) l = _; rw [disjR_eq]; rfl
theorem andR_eq (a b : Bool) : andR a b = (a && b) := by cases a <;> rfl
theorem rdOutR_eq (rd : Option (List Nat)) (lo hi : Nat) : rdOutR rd lo hi = (match rd with
    | none => true
    | some r => outside r lo hi) := by
  cases rd with
  | none => rfl
  | some r => exact outsideR_eq r lo hi
theorem apartR_eq (a b : Touch) : apartR a b = apart a b := by
  unfold apartR apart
  simp only [andR_eq, apartWRR_eq, disjR_eq, outsideR_eq, rdOutR_eq, Bool.and_assoc]
  rfl
theorem nthTR_eq : ∀ (l : List Touch) (n : Nat), nthTR l n = nth? l n
  | [], _ => rfl
  | _ :: _, 0 => rfl
  | _ :: l, n + 1 => by show nthTR l n = _; rw [nthTR_eq l n]; rfl
theorem apartAllR_eq (t : Touch) (sofar : List Touch) (n : Nat) : ∀ l : List Nat, apartAllR t sofar n l = apartAll t sofar n l
  | [] => rfl
  | j :: l => by
    show @Option.rec Touch (fun _ => Bool) false (fun u => @Bool.rec (fun _ => Bool) false (apartAllR t sofar n l) (apartR t u)) (nthTR sofar (Nat.sub (Nat.sub n 1) j)) = _
    rw [apartAllR_eq t sofar n l, nthTR_eq]
    simp only [apartAll]
    show _ = (match nth? sofar (Nat.sub (Nat.sub n 1) j) with
      | some u => (match apart t u with
        | true => apartAll t sofar n l
        | false => false)
      | none => false)
    cases nth? sofar (Nat.sub (Nat.sub n 1) j) with
    | none => rfl
    | some u =>
      simp only
      rw [apartR_eq]
      cases hx : apart t u <;> simp [hx]
theorem hidesR_eq (sofar : List Touch) (n : Nat) (h : List (Nat × Nat)) : ∀ l : List Nat, hidesR sofar n l h = hides sofar n l h
  | [] => rfl
  | j :: l => by
    show @Option.rec Touch (fun _ => List (Nat × Nat)) (hidesR sofar n l h) (fun u => @Bool.rec (fun _ => List (Nat × Nat)) ((u.lo, u.hi) :: hidesR sofar n l h) (hidesR sofar n l h) (Nat.beq u.lo u.hi)) (nthTR sofar (Nat.sub (Nat.sub n 1) j)) = _
    rw [hidesR_eq sofar n h l, nthTR_eq]
    simp only [hides]
    show _ = (match nth? sofar (Nat.sub (Nat.sub n 1) j) with
      | some u => (match Nat.beq u.lo u.hi with
        | true => hides sofar n l h
        | false => (u.lo, u.hi) :: hides sofar n l h)
      | none => hides sofar n l h)
    cases nth? sofar (Nat.sub (Nat.sub n 1) j) with
    | none => rfl
    | some u =>
      simp only
      cases Nat.beq u.lo u.hi <;> rfl

/-- none of those ahead has written or made anything -/
def QuietT (u : Touch) : Prop := u.wr = [] ∧ u.lo = u.hi
def Quiet (q : Bool) (sofar : List Touch) : Prop := q = true → ∀ u ∈ sofar, QuietT u
theorem hides_quiet {sofar : List Touch} {n : Nat} {h : List (Nat × Nat)} (hq : ∀ u ∈ sofar, QuietT u) : ∀ l : List Nat, hides sofar n l h = h
  | [] => rfl
  | j :: l => by
    simp only [hides, nth_eq, hides_quiet hq l]
    split
    · rename_i u hu
      have := (hq u (List.mem_of_getElem? hu)).2
      rw [this, Nat.beq_refl]
    · rfl
theorem apart_quiet {t u : Touch} (ht : QuietT t) (hu : QuietT u) : apart t u = true := by
  obtain ⟨trd, twr, tlo, thi⟩ := t
  obtain ⟨urd, uwr, ulo, uhi⟩ := u
  obtain ⟨h1, h2⟩ := ht
  obtain ⟨h3, h4⟩ := hu
  simp only at h1 h2 h3 h4
  subst h1; subst h2; subst h3; subst h4
  have out : ∀ (r : List Nat) (x : Nat), outside r x x = true := by
    intro r x
    induction r with
    | nil => rfl
    | cons a r ih =>
      simp only [outside, ih, ble_iff, blt_iff]
      by_cases h : x ≤ a
      · rw [decide_eq_true h, decide_eq_false (by omega)]
      · rw [decide_eq_false h]
  have wr : ∀ rd : Option (List Nat), apartWR [] rd = true := fun rd => by cases rd <;> rfl
  unfold apart
  simp only [wr, out, disj, Bool.and_true, Bool.true_and]
  cases trd <;> cases urd <;> simp [outside, out, disj]
theorem apartAll_quiet {t : Touch} {sofar : List Touch} (ht : QuietT t) (hq : ∀ u ∈ sofar, QuietT u) : ∀ {l : List Nat}, allLt l sofar.length = true → apartAll t sofar sofar.length l = true
  | [], _ => rfl
  | j :: l, h => by
    obtain ⟨h1, h2⟩ := bool_tt (c := Nat.blt j sofar.length) (b := allLt l sofar.length) h
    have hj : j < sofar.length := Nat.le_of_ble_eq_true h1
    simp only [apartAll, nth_eq]
    have : sofar.length - 1 - j < sofar.length := by omega
    rw [List.getElem?_eq_getElem this]
    simp only
    rw [apart_quiet ht (hq _ (List.getElem_mem this))]
    exact apartAll_quiet ht hq h2

theorem rdC_eq (n : Nat) (R : RF) (o : AOp) : (rdC o).run R = readsOf o ⟨n, R, .nil⟩ := by
  cases o
  case load sz x => simp only [rdC, readsOf, xC_eq n]
  case store sz x v => simp only [rdC, readsOf, xC_eq n]
  case conv c x => cases c <;> simp only [rdC, readsOf, xC_eq n]
  all_goals rfl
theorem hidF_t {rd : Option (List Nat)} {q : Bool} {sofar : List Touch} {n : Nat} {uno : List Nat} {s : St} {k : List (Nat × Nat) → Bool} (hq : Quiet q sofar) (h : hidF rd q sofar n uno s.next s.hid k = true) : ∃ d, hidFor rd sofar n uno s = some d ∧ k d = true := by
  cases rd with
  | none =>
    have h : @Bool.rec (fun _ => Bool) (forceL (hidesR sofar n uno s.hid) k) (k s.hid) q = true := h
    rcases bool_t h with ⟨h1, h2⟩ | ⟨h1, h2⟩
    · exact ⟨_, by simp only [hidFor]; rw [hides_quiet (hq h1)], h2⟩
    · rw [forceL_eq, hidesR_eq] at h2
      exact ⟨_, rfl, h2⟩
  | some l =>
    cases l with
    | nil => exact ⟨_, rfl, h⟩
    | cons x r =>
      cases r with
      | nil => exact ⟨_, rfl, h⟩
      | cons y r => cases h

theorem OpsDA.skip {o : AOper} {l : List AOper} {i : Nat} {sofar : List Touch} {T T' : Tmps} {s s' : St} (hg : guardOk o.guard T = false) (h : OpsDA prog l (i + 1) (⟨some [], [], s.next, s.next⟩ :: sofar) (T.putO o.dst .undef) s T' s') : OpsDA prog (o :: l) i sofar T s T' s' := by
  obtain ⟨n, hn⟩ := h
  exact ⟨n, by simp only [runOpsD, hg]; exact hn⟩
theorem OpsDA.cons {o : AOper} {l : List AOper} {i : Nat} {sofar : List Touch} {T T' : Tmps} {s s1 s' : St} {v : AV} {d : List (Nat × Nat)} (hg : guardOk o.guard T = true) (hd : hidFor (readsOf o.op T) sofar i o.uno s = some d)
    (h1 : OpA prog o.op T ⟨s.heap, s.next, s.next, [], d⟩ v s1) (hf : freeOk o.op ⟨readsOf o.op T, s1.wr, s.next, s1.next⟩ = true) (ha : apartAll ⟨readsOf o.op T, s1.wr, s.next, s1.next⟩ sofar i o.uno = true)
    (h : OpsDA prog l (i + 1) (⟨readsOf o.op T, s1.wr, s.next, s1.next⟩ :: sofar) (T.putO o.dst v) ⟨s1.heap, s1.next, s.base, noteAll s s1.wr, s.hid⟩ T' s') : OpsDA prog (o :: l) i sofar T s T' s' := by
  obtain ⟨n, hn⟩ := h
  obtain ⟨m, hm⟩ := h1
  refine ⟨max n m, ?_⟩
  simp only [runOpsD, hg, hd]
  rw [doOp_mono (callLe (Nat.le_max_right n m)) (roundLe (Nat.le_max_right n m)) hm]
  simp only [hf, ha]
  exact runOpsD_mono (callLe (Nat.le_max_left n m)) (roundLe (Nat.le_max_left n m)) hn

/-- what is asked of the rest of a drawn region -/
def DrOk (prog : Nat → Option AFun) (call round : FCall) (n : Nat) (l : List AOper) (i : Nat) (d : DrC) : Prop := ∀ (q : Bool) (sofar : List Touch) (R : RF) (s : St) (k : RF → St → Bool), Quiet q sofar → sofar.length = i → d.run call round q sofar R s k = true →
  ∃ R' s', OpsDA prog l i sofar ⟨n, R, .nil⟩ s ⟨n, R', .nil⟩ s' ∧ k R' s' = true

theorem opD_t {call round : FCall} {n i : Nat} {o : AOper} {l : List AOper} {ih : DrC} (hc : FSound prog call) (hr : RSound prog round) (hi : DrOk prog call round n l (i + 1) ih) {q : Bool} {sofar : List Touch} {R : RF} {s : St} {k : RF → St → Bool}
    (hq : Quiet q sofar) (hl : sofar.length = i) (hg : guardOk o.guard ⟨n, R, .nil⟩ = true) (h : (opD n i o ih).run call round q sofar R s k = true) : ∃ R' s', OpsDA prog (o :: l) i sofar ⟨n, R, .nil⟩ s ⟨n, R', .nil⟩ s' ∧ k R' s' = true := by
  unfold opD at h
  split at h
  · rename_i hf hn hlt
    simp only at h
    obtain ⟨v, s1, ⟨m, hm⟩, h⟩ := opC_t (n := n) hc hr h
    obtain ⟨R1, e1, h⟩ := dstC_t h
    obtain ⟨R', s', h1, h2⟩ := hi q _ R1 s k (fun hh u hu => by
      rcases List.mem_cons.1 hu with rfl | hu
      · exact ⟨rfl, rfl⟩
      · exact hq hh u hu) (by simp [hl]) h
    have hun : o.uno = [] := by
      cases hu : o.uno with
      | nil => rfl
      | cons a b => rw [hu] at hn; cases hn
    have hop : ∃ nx, opA o.op ⟨n, R, .nil⟩ s = some nx := by
      unfold doOp at hm
      cases hx : opA o.op ⟨n, R, .nil⟩ s with
      | none => rw [hx] at hm; cases hm
      | some y => exact ⟨y, rfl⟩
    obtain ⟨⟨nx, s2⟩, hop⟩ := hop
    obtain ⟨e2, w, e3, hall⟩ := free_same hf hop
    subst e3; subst e2
    have hv : v = w := by
      unfold doOp at hm
      rw [hop] at hm
      injection hm with hm; exact (pair_inj hm).1.symm
    subst hv
    have hrd := reads_free hf (⟨n, R, .nil⟩ : Tmps)
    refine ⟨R', s', .cons (v := v) (s1 := ⟨s2.heap, s2.next, s2.next, [], (0, s2.next) :: s2.hid⟩) (d := (0, s2.next) :: s2.hid) hg (by rw [hrd]; rfl) (opA_val (hall _)) ?_ ?_ ?_, h2⟩
    · unfold freeOk; rw [hf]; simp [nilN]
    · rw [hun]; rfl
    · rw [hrd, e1]
      exact h1
  · rename_i hf hlt
    simp only at h
    rw [onSt_eq] at h
    obtain ⟨d, hd, h⟩ := hidF_t hq h
    obtain ⟨v, s1, h1, h⟩ := opC_t (n := n) hc hr h
    rw [onSt_eq] at h
    rw [rdC_eq n] at hd h
    have hfr : freeOk o.op ⟨readsOf o.op ⟨n, R, .nil⟩, s1.wr, s.next, s1.next⟩ = true := by unfold freeOk; rw [hf]
    rcases bool_t h with ⟨hqt, h⟩ | ⟨_, h⟩
    · rw [andR_eq, andR_eq, Bool.and_eq_true, Bool.and_eq_true] at hqt
      obtain ⟨q1, q2, q3⟩ := hqt
      have hw : s1.wr = [] := by
        cases hx : s1.wr with
        | nil => rfl
        | cons a b => rw [hx] at q2; cases q2
      have hnx : s.next = s1.next := Nat.eq_of_beq_eq_true q3
      obtain ⟨R1, e1, h⟩ := dstC_t h
      obtain ⟨R', s', h2, h3⟩ := hi true _ R1 _ k (fun _ u hu => by
        rcases List.mem_cons.1 hu with rfl | hu
        · exact ⟨rfl, rfl⟩
        · exact hq q1 u hu) (by simp [hl]) h
      refine ⟨R', s', .cons hg hd h1 hfr ?_ ?_, h3⟩
      · rw [← hl] at hlt ⊢
        exact apartAll_quiet ⟨hw, hnx⟩ (hq q1) hlt
      · rw [e1, hw, ← hnx]
        exact h2
    · obtain ⟨ha, h⟩ := bool_tt h
      rw [forceL_eq, noteAllR_eq] at h
      rw [apartAllR_eq] at ha
      obtain ⟨R1, e1, h⟩ := dstC_t h
      obtain ⟨R', s', h2, h3⟩ := hi false _ R1 _ k (fun hh => by cases hh) (by simp [hl]) h
      exact ⟨R', s', .cons hg hd h1 hfr ha (by rw [e1]; exact h2), h3⟩
  · cases h

theorem opsD_t {call round : FCall} {n : Nat} (hc : FSound prog call) (hr : RSound prog round) : ∀ (l : List AOper) (i : Nat), DrOk prog call round n l i (opsD n l i)
  | [], i => fun q sofar R s k _ _ h => ⟨R, s, ⟨0, rfl⟩, h⟩
  | o :: l, i => by
    intro q sofar R s k hq hl h
    have ih := opsD_t (n := n) hc hr l (i + 1)
    have skip : guardOk o.guard ⟨n, R, .nil⟩ = false → (dstC n o.dst).run R .undef (fun R' => (opsD n l (i + 1)).run call round q (⟨some [], [], s.next, s.next⟩ :: sofar) R' s k) = true → ∃ R' s', OpsDA prog (o :: l) i sofar ⟨n, R, .nil⟩ s ⟨n, R', .nil⟩ s' ∧ k R' s' = true := fun hg h => by
      obtain ⟨R1, e1, h⟩ := dstC_t h
      obtain ⟨R', s', h1, h2⟩ := ih q _ R1 s k (fun hh u hu => by
        rcases List.mem_cons.1 hu with rfl | hu
        · exact ⟨rfl, rfl⟩
        · exact hq hh u hu) (by simp [hl]) h
      exact ⟨R', s', .skip hg (by rw [e1]; exact h1), h2⟩
    obtain ⟨dst, guard, op, uno⟩ := o
    cases guard with
    | none => exact opD_t hc hr ih hq hl rfl h
    | some g =>
      obtain ⟨t, w⟩ := g
      have h : onBoolD ((xC (.t t)).run R) ((dstC n dst).run R .undef fun R' => (opsD n l (i + 1)).run call round q (⟨some [], [], s.next, s.next⟩ :: sofar) R' s k) (fun b => @Bool.rec (fun _ => Bool)
          ((dstC n dst).run R .undef fun R' => (opsD n l (i + 1)).run call round q (⟨some [], [], s.next, s.next⟩ :: sofar) R' s k)
          ((opD n i ⟨dst, some (t, w), op, uno⟩ (opsD n l (i + 1))).run call round q sofar R s k) (boolEq b w)) = true := h
      rcases onBoolD_t h with ⟨b, hb, h⟩ | ⟨hb, h⟩
      · rw [xC_eq n] at hb
        rcases bool_t h with ⟨h1, h⟩ | ⟨h1, h⟩
        · exact opD_t hc hr ih hq hl (by rw [guard_b (show Tmps.get _ t = _ from hb)]; exact h1) h
        · exact skip (by rw [guard_b (show Tmps.get _ t = _ from hb)]; exact h1) h
      · rw [xC_eq n] at hb
        exact skip (guard_f hb) h

end Go.Qa
end

/- The fast machine is sound: codes, rounds, functions, the whole. -/
section
namespace Go.Qa
variable {prog : Nat → Option AFun}

def Kx (kN : RF → St → Bool) (kE : Nat → RF → St → Bool) (kR : RF → St → Bool) : AExit → RF → St → Bool
  | .normal => kN
  | .exit i => kE i
  | .ret => kR
/-- a code's closure is sound -/
def CcOk (prog : Nat → Option AFun) (n : Nat) (c : ACode) (d : CC) : Prop := ∀ (call round : FCall), FSound prog call → RSound prog round → ∀ (R : RF) (s : St) (kN : RF → St → Bool) (kE : Nat → RF → St → Bool) (kR : RF → St → Bool),
  d.run call round R s kN kE kR = true → ∃ e R' s', Runs prog c ⟨n, R, .nil⟩ s e ⟨n, R', .nil⟩ s' ∧ Kx kN kE kR e R' s' = true

theorem loopF_t {n : Nat} {c : ACode} {d : CC} (hd : CcOk prog n c d) {call round : FCall} (hc : FSound prog call) (hr : RSound prog round) : ∀ {m : Nat} {R : RF} {s : St} {kE : Nat → RF → St → Bool} {kR : RF → St → Bool},
    loopF d m call round R s kE kR = true → ∃ e R' s', Runs prog (.loop c) ⟨n, R, .nil⟩ s e ⟨n, R', .nil⟩ s' ∧ ∀ kN, Kx kN kE kR e R' s' = true
  | 0, R, s, kE, kR, h => by cases h
  | m + 1, R, s, kE, kR, h => by
    have h : d.run call round R s (fun R' s' => loopF d m call round R' s' kE kR) kE kR = true := h
    obtain ⟨e, R1, s1, ⟨a, ha⟩, h1⟩ := hd call round hc hr R s _ kE kR h
    cases e with
    | normal =>
      obtain ⟨e2, R2, s2, ⟨b, hb⟩, h2⟩ := loopF_t hd hc hr (m := m) h1
      refine ⟨e2, R2, s2, ⟨max a b + 1, ?_⟩, h2⟩
      show step prog (run prog (max a b)) (.loop c) _ _ = _
      simp only [step]
      rw [run_le prog (Nat.le_max_left a b) _ _ _ _ ha]
      exact run_le prog (Nat.le_max_right a b) _ _ _ _ hb
    | exit i =>
      refine ⟨.exit i, R1, s1, ⟨a + 1, ?_⟩, fun _ => h1⟩
      show step prog (run prog a) (.loop c) _ _ = _
      simp only [step]
      rw [ha]
    | ret =>
      refine ⟨.ret, R1, s1, ⟨a + 1, ?_⟩, fun _ => h1⟩
      show step prog (run prog a) (.loop c) _ _ = _
      simp only [step]
      rw [ha]

theorem putsC_t {n : Nat} : ∀ {l : List (Nat × AV)} {R : RF} {k : RF → Bool}, putsC n l R k = true → ∃ R', putL ⟨n, R, .nil⟩ l = ⟨n, R', .nil⟩ ∧ k R' = true
  | [], R, k, h => ⟨R, rfl, h⟩
  | (i, v) :: l, R, k, h => by
    have h : fv v (fun v => (dstC n (some i)).run R v fun R' => putsC n l R' k) = true := h
    rw [fv_eq] at h
    obtain ⟨R1, e1, h⟩ := dstC_t h
    obtain ⟨R', e2, h⟩ := putsC_t h
    refine ⟨R', ?_, h⟩
    show putL (Tmps.putO _ (some i) v) l = _
    rw [e1]; exact e2


theorem den_ok (prog : Nat → Option AFun) (n : Nat) : ∀ c : ACode, CcOk prog n c (den prog n c)
  | .skip => fun call round hc hr R s kN kE kR h => ⟨.normal, R, s, ⟨1, rfl⟩, h⟩
  | .region draw ops => fun call round hc hr R s kN kE kR h => by
    cases draw with
    | false =>
      have h : (opsC n ops).run call round R s kN = true := h
      obtain ⟨R', s', ⟨m, hm⟩, h2⟩ := opsC_t hc hr h
      refine ⟨.normal, R', s', ⟨m + 1, ?_⟩, h2⟩
      show step prog (run prog m) _ _ _ = _
      simp only [step, hm]
    | true =>
      have h : (opsD n ops 0).run call round true [] R s kN = true := h
      obtain ⟨R', s', ⟨m, hm⟩, h2⟩ := opsD_t hc hr ops 0 true [] R s kN (fun _ u hu => by cases hu) rfl h
      refine ⟨.normal, R', s', ⟨m + 1, ?_⟩, h2⟩
      show step prog (run prog m) _ _ _ = _
      simp only [step, hm]
  | .seq a b => fun call round hc hr R s kN kE kR h => by
    have h : (den prog n a).run call round R s (fun R' s' => (den prog n b).run call round R' s' kN kE kR) kE kR = true := h
    obtain ⟨e, R1, s1, ⟨m, hm⟩, h1⟩ := den_ok prog n a call round hc hr R s _ kE kR h
    cases e with
    | normal =>
      obtain ⟨e2, R2, s2, ⟨p, hp⟩, h2⟩ := den_ok prog n b call round hc hr R1 s1 kN kE kR h1
      refine ⟨e2, R2, s2, ⟨max m p + 1, ?_⟩, h2⟩
      show step prog (run prog (max m p)) _ _ _ = _
      simp only [step]
      rw [run_le prog (Nat.le_max_left m p) _ _ _ _ hm]
      exact run_le prog (Nat.le_max_right m p) _ _ _ _ hp
    | exit i =>
      refine ⟨.exit i, R1, s1, ⟨m + 1, ?_⟩, h1⟩
      show step prog (run prog m) _ _ _ = _
      simp only [step]
      rw [hm]
    | ret =>
      refine ⟨.ret, R1, s1, ⟨m + 1, ?_⟩, h1⟩
      show step prog (run prog m) _ _ _ = _
      simp only [step]
      rw [hm]
  | .cond x a b => fun call round hc hr R s kN kE kR h => by
    have h : onBool ((xC x).run R) (fun t => @Bool.rec (fun _ => Bool) ((den prog n b).run call round R s kN kE kR) ((den prog n a).run call round R s kN kE kR) t) = true := h
    obtain ⟨t, ht, h⟩ := onBool_t h
    rw [xC_eq n] at ht
    rcases bool_t h with ⟨h1, h2⟩ | ⟨h1, h2⟩
    · subst h1
      obtain ⟨e, R', s', ⟨m, hm⟩, h3⟩ := den_ok prog n a call round hc hr R s kN kE kR h2
      refine ⟨e, R', s', ⟨m + 1, ?_⟩, h3⟩
      show step prog (run prog m) _ _ _ = _
      simp only [step]
      rw [ht]
      exact hm
    · subst h1
      obtain ⟨e, R', s', ⟨m, hm⟩, h3⟩ := den_ok prog n b call round hc hr R s kN kE kR h2
      refine ⟨e, R', s', ⟨m + 1, ?_⟩, h3⟩
      show step prog (run prog m) _ _ _ = _
      simp only [step]
      rw [ht]
      exact hm
  | .block id c => fun call round hc hr R s kN kE kR h => by
    have h : (den prog n c).run call round R s kN (fun i R' s' => @Bool.rec (fun _ => Bool) (kE i R' s') (kN R' s') (Nat.beq i id)) kR = true := h
    obtain ⟨e, R1, s1, ⟨m, hm⟩, h1⟩ := den_ok prog n c call round hc hr R s _ _ kR h
    cases e with
    | normal =>
      refine ⟨.normal, R1, s1, ⟨m + 1, ?_⟩, h1⟩
      show step prog (run prog m) _ _ _ = _
      simp only [step]
      rw [hm]
    | ret =>
      refine ⟨.ret, R1, s1, ⟨m + 1, ?_⟩, h1⟩
      show step prog (run prog m) _ _ _ = _
      simp only [step]
      rw [hm]
    | exit i =>
      rcases bool_t (c := Nat.beq i id) h1 with ⟨h2, h3⟩ | ⟨h2, h3⟩
      · refine ⟨.normal, R1, s1, ⟨m + 1, ?_⟩, h3⟩
        show step prog (run prog m) _ _ _ = _
        simp only [step]
        rw [hm]
        simp only [h2]
      · refine ⟨.exit i, R1, s1, ⟨m + 1, ?_⟩, h3⟩
        show step prog (run prog m) _ _ _ = _
        simp only [step]
        rw [hm]
        simp only [h2]
  | .loop c => fun call round hc hr R s kN kE kR h => by
    have e0 : den prog n (.loop c) = loopC (den prog n c) := rfl
    rw [e0] at h
    unfold loopC at h
    simp only at h
    obtain ⟨e, R', s', h1, h2⟩ := loopF_t (den_ok prog n c) hc hr (m := loopFuel) h
    exact ⟨e, R', s', h1, h2 kN⟩
  | .scope c => fun call round hc hr R s kN kE kR h => by
    obtain ⟨e, R', s', ⟨m, hm⟩, h1⟩ := den_ok prog n c call round hc hr R s kN kE kR h
    exact ⟨e, R', s', ⟨m + 1, hm⟩, h1⟩
  | .exit id => fun call round hc hr R s kN kE kR h => ⟨.exit id, R, s, ⟨1, rfl⟩, h⟩
  | .ret => fun call round hc hr R s kN kE kR h => ⟨.ret, R, s, ⟨1, rfl⟩, h⟩
  | .rangeF f ps assign body => fun call round hc hr R s kN kE kR h => by
    have h : (match (xC f).run R, Nat.blt s.next big with
      | .func (.func g) first captured, true => (match entersB prog g with
        | false => false
        | true => normS (s.newS (.loop ⟨false, false, .normal, ⟨n, R, .nil⟩, ps, assign, body⟩)) fun s1 => call g (appR first (.func (.yield s.next) [] [] :: captured)) s1 fun _ s' =>
          onLoop s' s.next fun r => normS (s'.killS s.next) fun s'' => match r.busy, r.pend with
            | true, _ => false
            | false, .normal => kN R s''
            | false, .exit i => kE i R s''
            | false, .ret => kR R s'')
      | _, _ => false) = true := h
    split at h <;> first | (cases h; done) | skip
    rename_i g first captured hf hb
    split at h <;> first | (cases h; done) | skip
    rename_i he
    rw [normS_eq, St.newS_eq, appR_eq] at h
    obtain ⟨v, s', ⟨m, hm⟩, h⟩ := hc _ _ _ _ h
    obtain ⟨r, hg, h⟩ := onLoop_t h
    rw [normS_eq, St.killS_eq] at h
    rw [xC_eq n] at hf
    have key : ∀ e, r.busy = false → r.pend = e → Kx kN kE kR e R (s'.kill s.next) = true → ∃ e R' s', Runs prog (.rangeF f ps assign body) ⟨n, R, .nil⟩ s e ⟨n, R', .nil⟩ s' ∧ Kx kN kE kR e R' s' = true := by
      intro e h1 h2 h3
      refine ⟨e, R, _, ⟨m + 1, ?_⟩, h3⟩
      show step prog (run prog m) _ _ _ = _
      simp only [step]
      rw [hf, hb]
      simp only [he]
      have e1 : first ++ [AV.func (.yield s.next) [] []] ++ captured = first ++ (.func (.yield s.next) [] [] :: captured) := by simp
      rw [e1, hm]
      simp only [hg, h1, h2]
    split at h
    · cases h
    · rename_i h1 h2; exact key _ h1 h2 h
    · rename_i h1 h2; exact key _ h1 h2 h
    · rename_i h1 h2; exact key _ h1 h2 h
  | .mapIt tail => fun call round hc hr R s kN kE kR h => by
    have h : (match mapIt tail n ((xC (.t 12)).run R) s with
      | some (true, l, s') => normS s' fun s' => putsC n l R fun R' => kE 0 R' s'
      | some (false, l, s') => normS s' fun s' => putsC n l R fun R' => kN R' s'
      | none => false) = true := h
    split at h <;> first | (cases h; done) | skip
    · rename_i l s' ht
      rw [normS_eq] at h
      obtain ⟨R1, e1, h⟩ := putsC_t h
      rw [xC_eq n] at ht
      refine ⟨.exit 0, R1, s', ⟨1, ?_⟩, h⟩
      show step prog (run prog 0) _ _ _ = _
      simp only [step]
      rw [show (⟨n, R, .nil⟩ : Tmps).get 12 = ev ⟨n, R, .nil⟩ (.t 12) from rfl, ht]
      simp only [e1]
    · rename_i l s' ht
      rw [normS_eq] at h
      obtain ⟨R1, e1, h⟩ := putsC_t h
      rw [xC_eq n] at ht
      refine ⟨.normal, R1, s', ⟨1, ?_⟩, h⟩
      show step prog (run prog 0) _ _ _ = _
      simp only [step]
      rw [show (⟨n, R, .nil⟩ : Tmps).get 12 = ev ⟨n, R, .nil⟩ (.t 12) from rfl, ht]
      simp only [e1]
  | .native k => fun call round hc hr R s kN kE kR h => by
    have h : (match nativeA k n ((xC (.t 0)).run R) ((xC (.t 1)).run R) s with
      | some (v, s') => fv v fun v => normS s' fun s' => (dstC n (some 0)).run R v fun R' => kN R' s'
      | none => false) = true := h
    split at h <;> first | (cases h; done) | skip
    rename_i v s' ht
    rw [fv_eq, normS_eq] at h
    obtain ⟨R1, e1, h⟩ := dstC_t h
    rw [xC_eq n, xC_eq n] at ht
    refine ⟨.normal, R1, s', ⟨1, ?_⟩, h⟩
    show step prog (run prog 0) _ _ _ = _
    simp only [step]
    rw [show (⟨n, R, .nil⟩ : Tmps).get 0 = ev ⟨n, R, .nil⟩ (.t 0) from rfl, show (⟨n, R, .nil⟩ : Tmps).get 1 = ev ⟨n, R, .nil⟩ (.t 1) from rfl, ht]
    simp only
    rw [← e1]; rfl
  | .bad => fun call round hc hr R s kN kE kR h => by cases h

/-! ### Rounds -/
theorem putArgs_t {n : Nat} : ∀ {ps : List Nat} {l : List AV} {R : RF} {k : RF → Bool}, putArgs n ps l R k = true → ∃ R', putAll ⟨n, R, .nil⟩ ps l = ⟨n, R', .nil⟩ ∧ lenEq ps l = true ∧ k R' = true
  | [], [], R, k, h => ⟨R, rfl, rfl, h⟩
  | [], a :: l, R, k, h => by cases h
  | p :: ps, [], R, k, h => by cases h
  | p :: ps, a :: l, R, k, h => by
    have h : (dstC n (some p)).run R a (fun R' => putArgs n ps l R' k) = true := h
    obtain ⟨R1, e1, h⟩ := dstC_t h
    obtain ⟨R', e2, e3, h⟩ := putArgs_t h
    refine ⟨R', ?_, e3, h⟩
    show putAll (Tmps.putO _ (some p) a) ps l = _
    rw [e1]; exact e2

def isN : AExit → Bool
  | .normal => true
  | _ => false
theorem roundC_ok {call round : FCall} (hc : FSound prog call) (hr : RSound prog round) : RSound prog (roundC prog call round) := by
  intro l args s k h
  unfold roundC at h
  obtain ⟨r, hg, h⟩ := onLoop_t h
  split at h <;> first | (cases h; done) | skip
  rename_i n R hT
  obtain ⟨R0, e0, el, h⟩ := putArgs_t h
  obtain ⟨e, R1, s1, ⟨a, ha⟩, h⟩ := den_ok prog n r.assign call round hc hr _ _ _ _ _ h
  cases e with
  | exit i => cases h
  | ret => cases h
  | normal =>
    obtain ⟨r1, hg1, h⟩ := onLoop_t h
    split at h <;> first | (cases h; done) | skip
    rename_i hb hd
    rw [normS_eq, St.setS_eq] at h
    obtain ⟨e2, R2, s2, ⟨b, hb2⟩, h⟩ := den_ok prog n r.body call round hc hr _ _ _ _ _ h
    have key : ∀ (go : Bool), go = isN e2 → (onLoop s2 l fun r3 => normS (s2.setS l (.loop { r3 with busy := false, done := !go, pend := e2 })) fun s4 => k (.bool go) s4) = true → ∃ v s', RoundsA prog l args s v s' ∧ k v s' = true := by
      intro go hgo h
      obtain ⟨r3, hg3, h⟩ := onLoop_t h
      rw [normS_eq, St.setS_eq] at h
      refine ⟨.bool go, _, ⟨max a b, ?_⟩, h⟩
      unfold roundF
      rw [hg]
      simp only
      rw [el]
      simp only
      rw [hT, e0, run_le prog (Nat.le_max_left a b) _ _ _ _ ha]
      simp only
      rw [hg1]
      simp only []
      rw [if_neg (by rw [hb, hd]; simp)]
      rw [run_le prog (Nat.le_max_right a b) _ _ _ _ hb2]
      simp only
      rw [hg3, hgo]
      cases e2 <;> rfl
    cases e2 with
    | normal => exact key true rfl h
    | exit i => exact key false rfl h
    | ret => exact key false rfl h

/-! ### Functions -/
theorem startC_t {n : Nat} : ∀ {m i : Nat} {l : List AV} {R : RF} {k : RF → Bool}, (startC n m i).run l R k = true → ∃ R', startT l i ⟨n, R, .nil⟩ = ⟨n, R', .nil⟩ ∧ (l = [] ∨ i + l.length ≤ n) ∧ k R' = true
  | 0, i, [], R, k, h => ⟨R, rfl, .inl rfl, h⟩
  | 0, i, a :: l, R, k, h => by cases h
  | m + 1, i, [], R, k, h => ⟨R, rfl, .inl rfl, h⟩
  | m + 1, i, a :: l, R, k, h => by
    have h : (dstC n (some i)).run R a (fun R' => (startC n m (Nat.succ i)).run l R' k) = true := h
    have hin : i < n := by
      simp only [dstC] at h
      split at h
      · rename_i h1 _; exact Nat.le_of_ble_eq_true h1
      · cases h
    obtain ⟨R1, e1, h⟩ := dstC_t h
    obtain ⟨R', e2, e3, h⟩ := startC_t h
    refine ⟨R', ?_, .inr ?_, h⟩
    · show startT l (Nat.succ i) (Tmps.putO _ (some i) a) = _
      rw [e1]; exact e2
    · rcases e3 with rfl | e3
      · simp only [List.length_cons, List.length_nil]; omega
      · simp only [List.length_cons]; omega

theorem resC_t {n : Nat} {R : RF} {s : St} : ∀ {l : List ARes} {k : List AV → Bool}, (resC l).run R s k = true → ∃ vs, mapRes s ⟨n, R, .nil⟩ l = some vs ∧ k vs = true
  | [], k, h => ⟨[], rfl, h⟩
  | .tmp t :: l, k, h => by
    have h : fv ((xC (.t t)).run R) (fun v => (resC l).run R s fun l => k (v :: l)) = true := h
    rw [fv_eq, xC_eq n] at h
    obtain ⟨vs, h1, h2⟩ := resC_t (n := n) h
    exact ⟨_, by simp only [mapRes, h1]; rfl, h2⟩
  | .cell t sz :: l, k, h => by
    have h : onPtr ((xC (.t t)).run R) (fun id off => onCells s id fun c _ _ => (partC sz).run c off fun v => fv v fun v => (resC l).run R s fun l => k (v :: l)) = true := h
    obtain ⟨id, off, hx, h⟩ := onPtr_t h
    obtain ⟨c, el, fz, hcs, _, h⟩ := onCells_t h
    obtain ⟨v, hv, h⟩ := partC_t h
    rw [fv_eq] at h
    obtain ⟨vs, h1, h2⟩ := resC_t (n := n) h
    rw [xC_eq n] at hx
    refine ⟨_, ?_, h2⟩
    simp only [mapRes]
    rw [show (⟨n, R, .nil⟩ : Tmps).get t = ev ⟨n, R, .nil⟩ (.t t) from rfl, hx]
    simp only [hcs, hv, h1]
theorem resV_t {n : Nat} {R : RF} {s : St} {l : List ARes} {k : AV → Bool} (h : (resV l).run R s k = true) : ∃ v, resA s ⟨n, R, .nil⟩ l = some v ∧ k v = true := by
  unfold resV at h
  split at h
  · rename_i r
    obtain ⟨vs, h1, h2⟩ := resC_t (n := n) h
    obtain ⟨v, h3, h4⟩ := onGet_t h2
    have hlen : ∃ w, vs = [w] := by
      cases r with
      | tmp t => simp only [mapRes] at h1; injection h1 with h1; exact ⟨_, h1.symm⟩
      | cell t sz =>
        simp only [mapRes] at h1
        split at h1 <;> first | (cases h1; done) | skip
        split at h1 <;> first | (cases h1; done) | skip
        split at h1 <;> first | (cases h1; done) | skip
        rename_i e2
        injection e2 with e2; subst e2
        injection h1 with h1; exact ⟨_, h1.symm⟩
    obtain ⟨w, rfl⟩ := hlen
    injection h3 with h3; subst h3
    exact ⟨_, by unfold resA; rw [h1], h4⟩
  · rename_i hne
    obtain ⟨vs, h1, h2⟩ := resC_t (n := n) h
    refine ⟨.tup vs, ?_, h2⟩
    unfold resA
    rw [h1]
    cases l with
    | nil => simp only [mapRes] at h1; injection h1 with h1; subst h1; rfl
    | cons r l =>
      cases l with
      | nil => exact absurd rfl (hne r)
      | cons r2 l =>
        have two : ∃ a b t, vs = a :: b :: t := by
          have len : ∀ {l : List ARes} {vs : List AV}, mapRes s ⟨n, R, .nil⟩ l = some vs → vs.length = l.length := by
            intro l
            induction l with
            | nil => intro vs h; simp only [mapRes] at h; injection h with h; subst h; rfl
            | cons r l ih =>
              intro vs h
              cases r with
              | tmp t =>
                simp only [mapRes] at h
                split at h <;> first | (cases h; done) | skip
                rename_i hx
                injection h with h; subst h
                simp [ih hx]
              | cell t sz =>
                simp only [mapRes] at h
                split at h <;> first | (cases h; done) | skip
                split at h <;> first | (cases h; done) | skip
                split at h <;> first | (cases h; done) | skip
                rename_i hx
                injection h with h; subst h
                simp [ih hx]
          have := len h1
          cases vs with
          | nil => simp at this
          | cons a vs =>
            cases vs with
            | nil => simp at this
            | cons b t => exact ⟨a, b, t, rfl⟩
        obtain ⟨a, b, t, rfl⟩ := two
        rfl

theorem funC_ok {call round : FCall} (hc : FSound prog call) (hr : RSound prog round) {f : Nat} {args : List AV} {s : St} {k : KV} (h : (funC prog f).run call round args s k = true) : ∃ v s', CallsA prog f args s v s' ∧ k v s' = true := by
  unfold funC at h
  split at h
  · cases h
  · rename_i af hp
    simp only at h
    obtain ⟨R0, e0, e1, h⟩ := startC_t h
    rw [onSt_eq] at h
    obtain ⟨e, R1, s1, ⟨m, hm⟩, h⟩ := den_ok prog af.ntmps af.body call round hc hr _ _ _ _ _ h
    have hmax : Nat.max af.ntmps (llen args) = af.ntmps := by
      rw [llen_eq]
      rcases e1 with rfl | e1
      · exact Nat.max_eq_left (Nat.zero_le _)
      · exact Nat.max_eq_left (by omega)
    have key : (e = .normal ∨ e = .ret) → ((resV af.res).run R1 s1 fun v => onSt s1 fun heap' next' _ wr' _ => forceL (noteAllR s wr') fun w => k v ⟨heap', next', s.base, w, s.hid⟩) = true → ∃ v s', CallsA prog f args s v s' ∧ k v s' = true := by
      intro he h
      obtain ⟨v, hv, h⟩ := resV_t (n := af.ntmps) h
      rw [onSt_eq, forceL_eq, noteAllR_eq] at h
      refine ⟨v, _, ⟨m, ?_⟩, h⟩
      unfold callF
      rw [hp]
      simp only
      rw [hmax, e0, hm]
      rcases he with rfl | rfl
      · simp only [hv]
      · simp only [hv]
    cases e with
    | normal => exact key (.inl rfl) h
    | exit i => cases h
    | ret => exact key (.inr rfl) h

/-- functions that have a contract of their own keep it -/
def OverOk (prog : Nat → Option AFun) (over : Nat → Option FC) : Prop := ∀ f c, over f = some c → ∀ (call round : FCall), FSound prog call → RSound prog round → ∀ args s k, c.run call round args s k = true → ∃ v s', CallsA prog f args s v s' ∧ k v s' = true

/-- **the fast machine is sound** -/
theorem mach_ok {over : Nat → Option FC} (ho : OverOk prog over) : ∀ n, FSound prog (mach prog over n).call ∧ RSound prog (mach prog over n).round
  | 0 => ⟨fun _ _ _ _ h => (by cases h), fun _ _ _ _ h => (by cases h)⟩
  | n + 1 => by
    obtain ⟨h1, h2⟩ := mach_ok ho n
    refine ⟨fun f args s k h => ?_, roundC_ok h1 h2⟩
    have h : (match over f with
        | some c => c
        | none => funC prog f).run (mach prog over n).call (mach prog over n).round args s k = true := h
    cases hf : over f with
    | some c => rw [hf] at h; exact ho f c hf _ _ h1 h2 args s k h
    | none => rw [hf] at h; exact funC_ok h1 h2 h

end Go.Qa
end

/- Pieces of a right-nested code, reckoned by the fast machine; values and blocks held against each other. -/
section
namespace Go.Qa
variable {prog : Nat → Option AFun}

/-- the first m + 1 stretches of a right-nested code, and the rest -/
def cutR : ACode → Nat → ACode
  | .seq a _, 0 => a
  | .seq a b, m + 1 => .seq a (cutR b m)
  | _, _ => .bad
def restR : ACode → Nat → ACode
  | .seq _ b, 0 => b
  | .seq _ b, m + 1 => restR b m
  | _, _ => .bad
theorem Less.refl (s : St) : Less s s := ⟨rfl, rfl, rfl, rfl, fun _ _ h => h⟩
theorem piece : ∀ {c : ACode} {m n : Nat} {T T1 T' : Tmps} {s s1 t s' : St} {e : AExit}, run prog n (cutR c m) T s = some (.normal, T1, s1) → Less t s1 → RunsF prog (restR c m) T1 t e T' s' → RunsF prog c T s e T' s'
  | .seq a b, 0, n, T, T1, T', s, s1, t, s', e, h, hl, hr => .seq a b T T1 T' s s1 t s' e (.run n a T s .normal T1 s1 h) hl hr
  | .seq a b, m + 1, n, T, T1, T', s, s1, t, s', e, h, hl, hr => by
    cases n with
    | zero => cases h
    | succ n =>
      have h : step prog (run prog n) (.seq a (cutR b m)) T s = some (.normal, T1, s1) := h
      simp only [step] at h
      split at h <;> first | (cases h; done) | skip
      · rename_i Ta sa h1
        exact .seq a b T Ta T' s sa sa s' e (.run n a T s .normal Ta sa h1) (.refl sa) (piece h hl hr)
      · rename_i e1 T2 s2 hne h1
        obtain ⟨h2, _, _⟩ := trip_inj h
        exact absurd h2 hne
  | .skip, m, n, _, _, _, _, _, _, _, _, h, _, _ => by cases n <;> cases h
  | .region _ _, m, n, _, _, _, _, _, _, _, _, h, _, _ => by cases n <;> cases h
  | .cond _ _ _, m, n, _, _, _, _, _, _, _, _, h, _, _ => by cases n <;> cases h
  | .block _ _, m, n, _, _, _, _, _, _, _, _, h, _, _ => by cases n <;> cases h
  | .loop _, m, n, _, _, _, _, _, _, _, _, h, _, _ => by cases n <;> cases h
  | .scope _, m, n, _, _, _, _, _, _, _, _, h, _, _ => by cases n <;> cases h
  | .exit _, m, n, _, _, _, _, _, _, _, _, h, _, _ => by cases n <;> cases h
  | .ret, m, n, _, _, _, _, _, _, _, _, h, _, _ => by cases n <;> cases h
  | .rangeF _ _ _ _, m, n, _, _, _, _, _, _, _, _, h, _, _ => by cases n <;> cases h
  | .mapIt _, m, n, _, _, _, _, _, _, _, _, h, _, _ => by cases n <;> cases h
  | .native _, m, n, _, _, _, _, _, _, _, _, h, _, _ => by cases n <;> cases h
  | .bad, m, n, _, _, _, _, _, _, _, _, h, _, _ => by cases n <;> cases h

/-! ### Equality, to be reckoned -/
def fnEq : Fn → Fn → Bool
  | .func a, .func b => Nat.beq a b
  | .yield a, .yield b => Nat.beq a b
  | _, _ => false
theorem fnEq_ok {a b : Fn} (h : fnEq a b = true) : a = b := by
  cases a <;> cases b <;> first | (cases h; done) | (rw [Nat.eq_of_beq_eq_true h])
mutual
def avEq : AV → AV → Bool
  | .bool a, .bool b => boolEq a b
  | .int j a, .int k b => kindEq j k && intEq a b
  | .str a, .str b => strEq a b
  | .nilptr, .nilptr => true
  | .ptr a b, .ptr c d => Nat.beq a c && Nat.beq b d
  | .nilsl, .nilsl => true
  | .sl a b c d, .sl e f g h => Nat.beq a e && (Nat.beq b f && (Nat.beq c g && Nat.beq d h))
  | .slo a b c d, .slo e f g h => Nat.beq a e && (Nat.beq b f && (Nat.beq c g && Nat.beq d h))
  | .nilmap, .nilmap => true
  | .map a, .map b => Nat.beq a b
  | .func f a b, .func g c d => fnEq f g && (avsEq a c && avsEq b d)
  | .nilfunc, .nilfunc => true
  | .nilif, .nilif => true
  | .agg a, .agg b => avsEq a b
  | .tup a, .tup b => avsEq a b
  | _, _ => false
def avsEq : List AV → List AV → Bool
  | [], [] => true
  | a :: x, b :: y => avEq a b && avsEq x y
  | _, _ => false
end
theorem strEq_ok : ∀ {x y : List Nat}, strEq x y = true → x = y
  | [], [], _ => rfl
  | a :: x, b :: y, h => by
    simp only [strEq] at h
    split at h
    · rename_i hb; rw [Nat.eq_of_beq_eq_true hb, strEq_ok h]
    · cases h
  | [], _ :: _, h => by cases h
  | _ :: _, [], h => by cases h
theorem intEq_ok {a b : Int} (h : intEq a b = true) : a = b := by
  cases a <;> cases b <;> first | (cases h; done) | (rw [Nat.eq_of_beq_eq_true h])
theorem kindEq_ok {a b : IntKind} (h : kindEq a b = true) : a = b := by
  cases a <;> cases b <;> first | rfl | (cases h; done)
theorem boolEq_ok {a b : Bool} (h : boolEq a b = true) : a = b := by
  cases a <;> cases b <;> first | rfl | (cases h; done)
mutual
theorem avEq_ok : ∀ {a b : AV}, avEq a b = true → a = b
  | .bool a, b, h => by cases b <;> simp only [avEq] at h <;> first | (cases h; done) | (rw [boolEq_ok h])
  | .int j a, b, h => by
    cases b <;> simp only [avEq, Bool.and_eq_true] at h <;> first | (cases h; done) | skip
    rw [kindEq_ok h.1, intEq_ok h.2]
  | .str a, b, h => by cases b <;> simp only [avEq] at h <;> first | (cases h; done) | (rw [strEq_ok h])
  | .nilptr, b, h => by cases b <;> simp only [avEq] at h <;> first | (cases h; done) | rfl
  | .ptr a c, b, h => by
    cases b <;> simp only [avEq, Bool.and_eq_true] at h <;> first | (cases h; done) | skip
    rw [Nat.eq_of_beq_eq_true h.1, Nat.eq_of_beq_eq_true h.2]
  | .nilsl, b, h => by cases b <;> simp only [avEq] at h <;> first | (cases h; done) | rfl
  | .sl a c d e, b, h => by
    cases b <;> simp only [avEq, Bool.and_eq_true] at h <;> first | (cases h; done) | skip
    rw [Nat.eq_of_beq_eq_true h.1, Nat.eq_of_beq_eq_true h.2.1, Nat.eq_of_beq_eq_true h.2.2.1, Nat.eq_of_beq_eq_true h.2.2.2]
  | .slo a c d e, b, h => by
    cases b <;> simp only [avEq, Bool.and_eq_true] at h <;> first | (cases h; done) | skip
    rw [Nat.eq_of_beq_eq_true h.1, Nat.eq_of_beq_eq_true h.2.1, Nat.eq_of_beq_eq_true h.2.2.1, Nat.eq_of_beq_eq_true h.2.2.2]
  | .nilmap, b, h => by cases b <;> simp only [avEq] at h <;> first | (cases h; done) | rfl
  | .map a, b, h => by cases b <;> simp only [avEq] at h <;> first | (cases h; done) | (rw [Nat.eq_of_beq_eq_true h])
  | .func f a c, b, h => by
    cases b <;> simp only [avEq, Bool.and_eq_true] at h <;> first | (cases h; done) | skip
    rw [fnEq_ok h.1, avsEq_ok h.2.1, avsEq_ok h.2.2]
  | .nilfunc, b, h => by cases b <;> simp only [avEq] at h <;> first | (cases h; done) | rfl
  | .nilif, b, h => by cases b <;> simp only [avEq] at h <;> first | (cases h; done) | rfl
  | .agg a, b, h => by
    cases b <;> simp only [avEq] at h <;> first | (cases h; done) | skip
    rw [avsEq_ok h]
  | .tup a, b, h => by
    cases b <;> simp only [avEq] at h <;> first | (cases h; done) | skip
    rw [avsEq_ok h]
theorem avsEq_ok : ∀ {a b : List AV}, avsEq a b = true → a = b
  | [], [], _ => rfl
  | a :: x, b :: y, h => by
    simp only [avsEq, Bool.and_eq_true] at h
    rw [avEq_ok h.1, avsEq_ok h.2]
  | [], _ :: _, h => by simp only [avsEq] at h; cases h
  | _ :: _, [], h => by simp only [avsEq] at h; cases h
end
def esEq : List (AV × AV) → List (AV × AV) → Bool
  | [], [] => true
  | (a, b) :: x, (c, d) :: y => avEq a c && (avEq b d && esEq x y)
  | _, _ => false
theorem esEq_ok : ∀ {x y : List (AV × AV)}, esEq x y = true → x = y
  | [], [], _ => rfl
  | (a, b) :: x, (c, d) :: y, h => by
    simp only [esEq, Bool.and_eq_true] at h
    rw [avEq_ok h.1, avEq_ok h.2.1, esEq_ok h.2.2]
  | [], _ :: _, h => by cases h
  | _ :: _, [], h => by cases h
def aoEq : AO → AO → Bool
  | .cells a b c, .cells d e f => avsEq a d && (Nat.beq b e && boolEq c f)
  | .map a, .map b => esEq a b
  | _, _ => false
theorem aoEq_ok {a b : AO} (h : aoEq a b = true) : a = b := by
  cases a <;> cases b <;> simp only [aoEq, Bool.and_eq_true] at h <;> first | (cases h; done) | skip
  · rw [avsEq_ok h.1, Nat.eq_of_beq_eq_true h.2.1, boolEq_ok h.2.2]
  · rw [esEq_ok h]

end Go.Qa
end

/- States between pieces: what is listed, and how it is held against what a run has left. -/
section
namespace Go.Qa
variable {prog : Nat → Option AFun}

def n16Eq {α : Type} (q : α → α → Bool) (a b : N16 α) : Bool := q a.x0 b.x0 && (q a.x1 b.x1 && (q a.x2 b.x2 && (q a.x3 b.x3 && (q a.x4 b.x4 && (q a.x5 b.x5 && (q a.x6 b.x6 && (q a.x7 b.x7 && (q a.x8 b.x8 && (q a.x9 b.x9 && (q a.x10 b.x10 && (q a.x11 b.x11 && (q a.x12 b.x12 && (q a.x13 b.x13 && (q a.x14 b.x14 && (q a.x15 b.x15)))))))))))))))
theorem n16Eq_ok {α : Type} {q : α → α → Bool} (hq : ∀ x y, q x y = true → x = y) {a b : N16 α} (h : n16Eq q a b = true) : a = b := by
  unfold n16Eq at h
  simp only [Bool.and_eq_true] at h
  cases a; cases b
  simp only at h
  obtain ⟨h0, h1, h2, h3, h4, h5, h6, h7, h8, h9, h10, h11, h12, h13, h14, h15⟩ := h
  rw [hq _ _ h0, hq _ _ h1, hq _ _ h2, hq _ _ h3, hq _ _ h4, hq _ _ h5, hq _ _ h6, hq _ _ h7, hq _ _ h8, hq _ _ h9, hq _ _ h10, hq _ _ h11, hq _ _ h12, hq _ _ h13, hq _ _ h14, hq _ _ h15]
def rfEq : RF → RF → Bool := n16Eq (n16Eq avEq)
theorem rfEq_ok {a b : RF} (h : rfEq a b = true) : a = b := n16Eq_ok (fun _ _ h => n16Eq_ok (fun _ _ h => avEq_ok h) h) h

/-- a state of listed blocks -/
def heapOf : List (Nat × AO) → Tr AO
  | [] => .nil
  | (id, o) :: l => Tr.put (some o) (Nat.succ id) (heapOf l) id
def smallSt (l : List (Nat × AO)) (next base : Nat) : St := ⟨heapOf l, next, base, [], []⟩
theorem heapOf_get : ∀ {l : List (Nat × AO)} {id : Nat} {o : AO}, (heapOf l).get id = some o → (id, o) ∈ l
  | [], id, o, h => by cases h
  | (i, x) :: l, id, o, h => by
    simp only [heapOf, Tr.get_set] at h
    by_cases e : id = i
    · rw [if_pos e] at h; injection h with h; subst h; subst e; exact List.mem_cons_self
    · rw [if_neg e] at h; exact List.mem_cons_of_mem _ (heapOf_get h)
noncomputable def allIn (s : St) : List (Nat × AO) → Bool
  | [] => true
  | (id, o) :: l => (match s.getS id with
    | some x => aoEq x o && allIn s l
    | none => false)
theorem allIn_ok {s : St} : ∀ {l : List (Nat × AO)}, allIn s l = true → ∀ id o, (id, o) ∈ l → s.get id = some o
  | [], _, id, o, h => by cases h
  | (i, x) :: l, h, id, o, hm => by
    simp only [allIn] at h
    split at h <;> first | (cases h; done) | skip
    rename_i y hy
    rw [St.getS_eq] at hy
    rw [Bool.and_eq_true] at h
    rcases List.mem_cons.1 hm with e | e
    · injection e with e1 e2; subst e1; subst e2; rw [hy, aoEq_ok h.1]
    · exact allIn_ok h.2 id o e
noncomputable def checkSt (l : List (Nat × AO)) (next base : Nat) (s : St) : Bool := Nat.beq s.next next && (Nat.beq s.base base && (nilN s.wr && ((match s.hid with
  | [] => true
  | _ => false) && allIn s l)))
theorem checkSt_ok {l : List (Nat × AO)} {next base : Nat} {s : St} (h : checkSt l next base s = true) : Less (smallSt l next base) s := by
  unfold checkSt at h
  simp only [Bool.and_eq_true] at h
  obtain ⟨h1, h2, h3, h4, h5⟩ := h
  have e1 := Nat.eq_of_beq_eq_true h1
  have e2 := Nat.eq_of_beq_eq_true h2
  have e3 : s.wr = [] := by
    cases hx : s.wr with
    | nil => rfl
    | cons a b => rw [hx] at h3; cases h3
  have e4 : s.hid = [] := by
    cases hx : s.hid with
    | nil => rfl
    | cons a b => rw [hx] at h4; cases h4
  refine ⟨e1.symm, e2.symm, e4.symm, e3.symm, fun id o hg => ?_⟩
  refine allIn_ok h5 id o (heapOf_get ?_)
  unfold St.get smallSt at hg
  simp only at hg
  split at hg
  · split at hg
    · cases hg
    · exact hg
  · cases hg

/-- one piece by the fast machine -/
theorem fast_piece {over : Nat → Option FC} (ho : OverOk prog over) {m n next base : Nat} {c : ACode} {R R1 : RF} {s : St} {l : List (Nat × AO)}
    (h : (den prog n c).run (mach prog over m).call (mach prog over m).round R s (fun R' s' => rfEq R' R1 && checkSt l next base s') (fun _ _ _ => false) (fun _ _ => false) = true) :
    ∃ k s1, run prog k c ⟨n, R, .nil⟩ s = some (.normal, ⟨n, R1, .nil⟩, s1) ∧ Less (smallSt l next base) s1 := by
  obtain ⟨h1, h2⟩ := mach_ok ho m
  obtain ⟨e, R', s', ⟨k, hk⟩, hx⟩ := den_ok prog n c _ _ h1 h2 R s _ _ _ h
  cases e with
  | normal =>
    simp only [Kx, Bool.and_eq_true] at hx
    rw [rfEq_ok hx.1] at hk
    exact ⟨k, s', hk, checkSt_ok hx.2⟩
  | exit i => cases hx
  | ret => cases hx
/-- the last piece -/
theorem fast_last {over : Nat → Option FC} (ho : OverOk prog over) {m n : Nat} {c : ACode} {R : RF} {s : St} {test : RF → St → Bool}
    (h : (den prog n c).run (mach prog over m).call (mach prog over m).round R s (fun _ _ => false) (fun _ _ _ => false) test = true) :
    ∃ k R1 s1, run prog k c ⟨n, R, .nil⟩ s = some (.ret, ⟨n, R1, .nil⟩, s1) ∧ test R1 s1 = true := by
  obtain ⟨h1, h2⟩ := mach_ok ho m
  obtain ⟨e, R', s', ⟨k, hk⟩, hx⟩ := den_ok prog n c _ _ h1 h2 R s _ _ _ h
  cases e with
  | normal => cases hx
  | exit i => cases hx
  | ret => exact ⟨k, R', s', hk, hx⟩

end Go.Qa
end

/- Parts of a run, reckoned by the fast machine, and how they are laid one behind another. -/
section
namespace Go.Qa
variable {prog : Nat → Option AFun} {ok : Env}

/-! ### States that are listed -/
def stL (l : List (Nat × AO)) (next base : Nat) (wr : List Nat) : St := ⟨heapOf l, next, base, wr, []⟩
def nsEq : List Nat → List Nat → Bool
  | [], [] => true
  | a :: x, b :: y => (match Nat.beq a b with
    | true => nsEq x y
    | false => false)
  | _, _ => false
theorem nsEq_ok : ∀ {x y : List Nat}, nsEq x y = true → x = y
  | [], [], _ => rfl
  | a :: x, b :: y, h => by
    simp only [nsEq] at h
    split at h
    · rename_i hb; rw [Nat.eq_of_beq_eq_true hb, nsEq_ok h]
    · cases h
  | [], _ :: _, h => by cases h
  | _ :: _, [], h => by cases h
noncomputable def checkL (l : List (Nat × AO)) (next base : Nat) (wr : List Nat) (s : St) : Bool := Nat.beq s.next next && (Nat.beq s.base base && (nsEq s.wr wr && ((match s.hid with
  | [] => true
  | _ => false) && allIn s l)))
theorem checkL_ok {l : List (Nat × AO)} {next base : Nat} {wr : List Nat} {s : St} (h : checkL l next base wr s = true) : Less (stL l next base wr) s := by
  unfold checkL at h
  simp only [Bool.and_eq_true] at h
  obtain ⟨h1, h2, h3, h4, h5⟩ := h
  have e1 := Nat.eq_of_beq_eq_true h1
  have e2 := Nat.eq_of_beq_eq_true h2
  have e3 := nsEq_ok h3
  have e4 : s.hid = [] := by
    cases hx : s.hid with
    | nil => rfl
    | cons a b => rw [hx] at h4; cases h4
  refine ⟨e1.symm, e2.symm, e4.symm, e3.symm, fun id o hg => ?_⟩
  refine allIn_ok h5 id o (heapOf_get ?_)
  unfold St.get stL at hg
  simp only at hg
  split at hg
  · split at hg
    · cases hg
    · exact hg
  · cases hg
theorem Less.trans {s t u : St} (h : Less s t) (k : Less t u) : Less s u := ⟨h.next.trans k.next, h.base.trans k.base, h.hid.trans k.hid, h.wr.trans k.wr, fun id o x => k.get id o (h.get id o x)⟩
/-- behind a call -/
theorem less_after {l : List (Nat × AO)} {next b2 : Nat} {wr2 wr3 : List Nat} {s s2 : St} (hs : s.hid = []) (h : Less (stL l next b2 wr2) s2) (hw : nsEq (noteAll s wr2) wr3 = true) : Less (stL l next s.base wr3) ⟨s2.heap, s2.next, s.base, noteAll s s2.wr, s.hid⟩ := by
  have hw := nsEq_ok hw
  refine ⟨h.next, rfl, hs.symm, ?_, fun id o hg => ?_⟩
  · show wr3 = noteAll s s2.wr
    rw [← h.wr]; exact hw.symm
  · have h1 := h.get id o hg
    have h2 : s2.hid = s.hid := by rw [hs]; exact h.hid.symm
    show (⟨s2.heap, s2.next, s.base, noteAll s s2.wr, s.hid⟩ : St).get id = some o
    unfold St.get at h1 ⊢
    rw [← h2]; exact h1

/-! ### Parts -/
def PartO (prog : Nat → Option AFun) (ok : Env) (l : List AOper) (T : Tmps) (s : St) (T1 : Tmps) (t : St) : Prop := ∃ s1, RunsG prog ok (.ops l) T s T1 s1 ∧ Less t s1
def PartR (prog : Nat → Option AFun) (ok : Env) (c : ACode) (res : List ARes) (T : Tmps) (s : St) (v : AV) (t : St) : Prop := ∃ T2 s2, RunsG prog ok (.code c .ret) T s T2 s2 ∧ resA s2 T2 res = some v ∧ Less t s2

theorem pieceG : ∀ {c : ACode} {m n : Nat} {T T1 T' : Tmps} {s s1 t s' : St} {e : AExit}, run prog n (cutR c m) T s = some (.normal, T1, s1) → Less t s1 → RunsG prog ok (.code (restR c m) e) T1 t T' s' → RunsG prog ok (.code c e) T s T' s'
  | .seq a b, 0, n, T, T1, T', s, s1, t, s', e, h, hl, hr => .seq a b e T T1 T' s s1 t s' (.run n a .normal T T1 s s1 h) hl hr
  | .seq a b, m + 1, n, T, T1, T', s, s1, t, s', e, h, hl, hr => by
    cases n with
    | zero => cases h
    | succ n =>
      have h : step prog (run prog n) (.seq a (cutR b m)) T s = some (.normal, T1, s1) := h
      simp only [step] at h
      split at h <;> first | (cases h; done) | skip
      · rename_i Ta sa h1
        exact .seq a b e T Ta T' s sa sa s' (.run n a .normal T Ta s sa h1) (.refl sa) (pieceG h hl hr)
      · rename_i e1 T2 s2 hne h1
        obtain ⟨h2, _, _⟩ := trip_inj h
        exact absurd h2 hne
  | .skip, m, n, _, _, _, _, _, _, _, _, h, _, _ => by cases n <;> cases h
  | .region _ _, m, n, _, _, _, _, _, _, _, _, h, _, _ => by cases n <;> cases h
  | .cond _ _ _, m, n, _, _, _, _, _, _, _, _, h, _, _ => by cases n <;> cases h
  | .block _ _, m, n, _, _, _, _, _, _, _, _, h, _, _ => by cases n <;> cases h
  | .loop _, m, n, _, _, _, _, _, _, _, _, h, _, _ => by cases n <;> cases h
  | .scope _, m, n, _, _, _, _, _, _, _, _, h, _, _ => by cases n <;> cases h
  | .exit _, m, n, _, _, _, _, _, _, _, _, h, _, _ => by cases n <;> cases h
  | .ret, m, n, _, _, _, _, _, _, _, _, h, _, _ => by cases n <;> cases h
  | .rangeF _ _ _ _, m, n, _, _, _, _, _, _, _, _, h, _, _ => by cases n <;> cases h
  | .mapIt _, m, n, _, _, _, _, _, _, _, _, h, _, _ => by cases n <;> cases h
  | .native _, m, n, _, _, _, _, _, _, _, _, h, _, _ => by cases n <;> cases h
  | .bad, m, n, _, _, _, _, _, _, _, _, h, _, _ => by cases n <;> cases h

def noOver (_ : Nat) : Option FC := none
theorem noOver_ok : OverOk prog noOver := fun _ _ h => by cases h

/-- stretches of a code -/
theorem seqPart {m d n next base : Nat} {wr : List Nat} {c : ACode} {R R1 : RF} {s : St} {l : List (Nat × AO)} {res : List ARes} {v : AV} {t : St}
    (h : (den prog n (cutR c m)).run (mach prog noOver d).call (mach prog noOver d).round R s (fun R' s' => rfEq R' R1 && checkL l next base wr s') (fun _ _ _ => false) (fun _ _ => false) = true)
    (hr : PartR prog ok (restR c m) res ⟨n, R1, .nil⟩ (stL l next base wr) v t) : PartR prog ok c res ⟨n, R, .nil⟩ s v t := by
  obtain ⟨h1, h2⟩ := mach_ok (prog := prog) noOver_ok d
  obtain ⟨e, R', s', ⟨k, hk⟩, hx⟩ := den_ok prog n (cutR c m) _ _ h1 h2 R s _ _ _ h
  obtain ⟨T2, s2, g1, g2, g3⟩ := hr
  cases e with
  | normal =>
    simp only [Kx, Bool.and_eq_true] at hx
    rw [rfEq_ok hx.1] at hk
    exact ⟨T2, s2, pieceG hk (checkL_ok hx.2) g1, g2, g3⟩
  | exit i => cases hx
  | ret => cases hx
/-- the end of a code -/
theorem endPart {d n next base : Nat} {wr : List Nat} {c : ACode} {R : RF} {s : St} {l : List (Nat × AO)} {res : List ARes} {v : AV}
    (h : (den prog n c).run (mach prog noOver d).call (mach prog noOver d).round R s (fun _ _ => false) (fun _ _ _ => false) (fun R' s' => (resV res).run R' s' (fun v' => avEq v' v) && checkL l next base wr s') = true) : PartR prog ok c res ⟨n, R, .nil⟩ s v (stL l next base wr) := by
  obtain ⟨h1, h2⟩ := mach_ok (prog := prog) noOver_ok d
  obtain ⟨e, R', s', ⟨k, hk⟩, hx⟩ := den_ok prog n c _ _ h1 h2 R s _ _ _ h
  cases e with
  | normal => cases hx
  | exit i => cases hx
  | ret =>
    simp only [Kx, Bool.and_eq_true] at hx
    obtain ⟨v', hv, he⟩ := resV_t (n := n) hx.1
    rw [avEq_ok he] at hv
    exact ⟨_, s', .run k c .ret _ _ s s' hk, hv, checkL_ok hx.2⟩
/-- operations of a region -/
theorem opsPart {d n next base : Nat} {wr : List Nat} {ops : List AOper} {R R1 : RF} {s : St} {l : List (Nat × AO)}
    (h : (opsC n ops).run (mach prog noOver d).call (mach prog noOver d).round R s (fun R' s' => rfEq R' R1 && checkL l next base wr s') = true) : PartO prog ok ops ⟨n, R, .nil⟩ s ⟨n, R1, .nil⟩ (stL l next base wr) := by
  obtain ⟨h1, h2⟩ := mach_ok (prog := prog) noOver_ok d
  obtain ⟨R', s', ⟨k, hk⟩, hx⟩ := opsC_t (n := n) h1 h2 h
  rw [Bool.and_eq_true] at hx
  rw [rfEq_ok hx.1] at hk
  exact ⟨s', .opsRun k ops _ _ s s' hk, checkL_ok hx.2⟩

/-! ### A region that is cut -/
def isSeqRegion : ACode → Bool
  | .seq (.region false _) _ => true
  | _ => false
def regOps : ACode → List AOper
  | .seq (.region false l) _ => l
  | _ => []
theorem seqRegion : ∀ {c : ACode}, isSeqRegion c = true → c = .seq (.region false (regOps c)) (restR c 0)
  | .seq (.region false l) b, _ => rfl
  | .seq (.region true _) _, h => by cases h
  | .seq .skip _, h => by cases h
  | .seq (.seq _ _) _, h => by cases h
  | .seq (.cond _ _ _) _, h => by cases h
  | .seq (.block _ _) _, h => by cases h
  | .seq (.loop _) _, h => by cases h
  | .seq (.scope _) _, h => by cases h
  | .seq (.exit _) _, h => by cases h
  | .seq .ret _, h => by cases h
  | .seq (.rangeF _ _ _ _) _, h => by cases h
  | .seq (.mapIt _) _, h => by cases h
  | .seq (.native _) _, h => by cases h
  | .seq .bad _, h => by cases h
  | .skip, h => by cases h
  | .region _ _, h => by cases h
  | .cond _ _ _, h => by cases h
  | .block _ _, h => by cases h
  | .loop _, h => by cases h
  | .scope _, h => by cases h
  | .exit _, h => by cases h
  | .ret, h => by cases h
  | .rangeF _ _ _ _, h => by cases h
  | .mapIt _, h => by cases h
  | .native _, h => by cases h
  | .bad, h => by cases h
def takeO : Nat → List AOper → List AOper
  | 0, _ => []
  | _ + 1, [] => []
  | n + 1, a :: l => a :: takeO n l
def dropO : Nat → List AOper → List AOper
  | 0, l => l
  | _ + 1, [] => []
  | n + 1, _ :: l => dropO n l
theorem take_drop : ∀ (n : Nat) (l : List AOper), takeO n l ++ dropO n l = l
  | 0, l => rfl
  | n + 1, [] => rfl
  | n + 1, a :: l => by show a :: (takeO n l ++ dropO n l) = _; rw [take_drop n l]

/-- two halves of a region -/
theorem splitPart {c : ACode} {i : Nat} {T T1 T2 : Tmps} {s t1 t2 : St} {res : List ARes} {v : AV} {t : St} (hc : isSeqRegion c = true) (h1 : PartO prog ok (takeO i (regOps c)) T s T1 t1) (h2 : PartO prog ok (dropO i (regOps c)) T1 t1 T2 t2)
    (hr : PartR prog ok (restR c 0) res T2 t2 v t) : PartR prog ok c res T s v t := by
  obtain ⟨s1, g1, l1⟩ := h1
  obtain ⟨s2, g2, l2⟩ := h2
  obtain ⟨T3, s3, g3, e3, l3⟩ := hr
  refine ⟨T3, s3, ?_, e3, l3⟩
  rw [seqRegion hc]
  refine .seq _ _ _ _ _ _ _ _ _ _ (.region _ _ _ _ _ ?_) l2 g3
  have := RunsG.opsApp _ _ _ _ _ _ _ _ _ g1 l1 g2
  rw [take_drop] at this
  exact this

def isSeqRegion2 : ACode → Bool
  | .seq (.seq (.region false _) _) _ => true
  | _ => false
def regOps2 : ACode → List AOper
  | .seq (.seq (.region false l) _) _ => l
  | _ => []
def condOf : ACode → ACode
  | .seq (.seq _ d) _ => d
  | _ => .bad
theorem seqRegion2 {c : ACode} (h : isSeqRegion2 c = true) : c = .seq (.seq (.region false (regOps2 c)) (condOf c)) (restR c 0) := by
  unfold isSeqRegion2 at h
  split at h
  · rfl
  · cases h
/-- a stretch that ends normally -/
def PartN (prog : Nat → Option AFun) (ok : Env) (c : ACode) (T : Tmps) (s : St) (T1 : Tmps) (t : St) : Prop := ∃ s1, RunsG prog ok (.code c .normal) T s T1 s1 ∧ Less t s1
theorem normPart {d n next base : Nat} {wr : List Nat} {c : ACode} {R R1 : RF} {s : St} {l : List (Nat × AO)}
    (h : (den prog n c).run (mach prog noOver d).call (mach prog noOver d).round R s (fun R' s' => rfEq R' R1 && checkL l next base wr s') (fun _ _ _ => false) (fun _ _ => false) = true) : PartN prog ok c ⟨n, R, .nil⟩ s ⟨n, R1, .nil⟩ (stL l next base wr) := by
  obtain ⟨h1, h2⟩ := mach_ok (prog := prog) noOver_ok d
  obtain ⟨e, R', s', ⟨k, hk⟩, hx⟩ := den_ok prog n c _ _ h1 h2 R s _ _ _ h
  cases e with
  | normal =>
    simp only [Kx, Bool.and_eq_true] at hx
    rw [rfEq_ok hx.1] at hk
    exact ⟨s', .run k c .normal _ _ s s' hk, checkL_ok hx.2⟩
  | exit i => cases hx
  | ret => cases hx
/-- two halves of a region, and what stands beside it -/
theorem splitPart2 {c : ACode} {i : Nat} {T T1 T2 T3 : Tmps} {s t1 t2 t3 : St} {res : List ARes} {v : AV} {t : St} (hc : isSeqRegion2 c = true) (h1 : PartO prog ok (takeO i (regOps2 c)) T s T1 t1) (h2 : PartO prog ok (dropO i (regOps2 c)) T1 t1 T2 t2)
    (h3 : PartN prog ok (condOf c) T2 t2 T3 t3) (hr : PartR prog ok (restR c 0) res T3 t3 v t) : PartR prog ok c res T s v t := by
  obtain ⟨s1, g1, l1⟩ := h1
  obtain ⟨s2, g2, l2⟩ := h2
  obtain ⟨s3, g3, l3⟩ := h3
  obtain ⟨T4, s4, g4, e4, l4⟩ := hr
  refine ⟨T4, s4, ?_, e4, l4⟩
  rw [seqRegion2 hc]
  have := RunsG.opsApp _ _ _ _ _ _ _ _ _ g1 l1 g2
  rw [take_drop] at this
  exact .seq _ _ _ _ _ _ _ _ _ _ (.seq _ _ _ _ _ _ _ _ _ _ (.region _ _ _ _ _ this) l2 g3) l3 g4

/-- is the first of some operations a call of a function with these arguments, whose value goes there? -/
def dstEq : Option Nat → Option Nat → Bool
  | none, none => true
  | some a, some b => Nat.beq a b
  | _, _ => false
def isCall (l : List AOper) (T : Tmps) (g : Nat) (args : List AV) (dst : Option Nat) : Bool :=
  match l with
  | o :: _ => guardOk o.guard T && (dstEq o.dst dst && (match o.op with
    | .call f xs => (match ev T f with
      | .func (.func g') [] [] => Nat.beq g' g && avsEq (evs T xs) args
      | _ => false)
    | _ => false))
  | [] => false
theorem isCall_ok {l : List AOper} {T : Tmps} {g : Nat} {args : List AV} {dst : Option Nat} (h : isCall l T g args dst = true) : ∃ o r f xs, l = o :: r ∧ o.op = .call f xs ∧ guardOk o.guard T = true ∧ ev T f = .func (.func g) [] [] ∧ evs T xs = args ∧ o.dst = dst := by
  cases l with
  | nil => cases h
  | cons o r =>
    simp only [isCall, Bool.and_eq_true] at h
    obtain ⟨h1, h2, h3⟩ := h
    split at h3 <;> first | (cases h3; done) | skip
    rename_i f xs ho
    split at h3 <;> first | (cases h3; done) | skip
    rename_i g' hf
    rw [Bool.and_eq_true] at h3
    have e1 := Nat.eq_of_beq_eq_true h3.1
    subst e1
    refine ⟨o, r, f, xs, rfl, ho, h1, hf, avsEq_ok h3.2, ?_⟩
    cases hd : o.dst <;> cases dst <;> rw [hd] at h2 <;> first | (cases h2; done) | rfl | (rw [Nat.eq_of_beq_eq_true h2])
theorem dropO_succ : ∀ {i : Nat} {l : List AOper} {o : AOper} {r : List AOper}, dropO i l = o :: r → dropO (i + 1) l = r
  | 0, [], _, _, h => by cases h
  | 0, a :: l, _, _, h => by injection h
  | n + 1, [], _, _, h => by cases h
  | n + 1, a :: l, o, r, h => by show dropO (n + 1) l = r; exact dropO_succ (i := n) (l := l) h

/-- a region with a call that is told in parts -/
theorem callPart {c : ACode} {i g n n' next base next2 base2 : Nat} {wr wr2 wr3 : List Nat} {L L2 : List (Nat × AO)} {args : List AV} {dst : Option Nat} {af : AFun} {T T4 : Tmps} {R1 R2 R0 : RF} {s t4 : St} {v vv : AV} {res : List ARes} {t : St}
    (hc : isSeqRegion c = true) (h1 : PartO prog ok (takeO i (regOps c)) T s ⟨n, R1, .nil⟩ (stL L next base wr)) (hcall : isCall (dropO i (regOps c)) ⟨n, R1, .nil⟩ g args dst = true) (hp : prog g = some af) (hk : ok.ok g)
    (hT0 : startT args 0 ⟨Nat.max af.ntmps (llen args), blank, .nil⟩ = ⟨n', R0, .nil⟩) (hbody : PartR prog ok af.body af.res ⟨n', R0, .nil⟩ (stL L next next []) vv (stL L2 next2 base2 wr2))
    (hw : nsEq (noteAll (stL L next base wr) wr2) wr3 = true) (hT2 : (⟨n, R1, .nil⟩ : Tmps).putO dst vv = ⟨n, R2, .nil⟩) (h3 : PartO prog ok (dropO (i + 1) (regOps c)) ⟨n, R2, .nil⟩ (stL L2 next2 base wr3) T4 t4)
    (hr : PartR prog ok (restR c 0) res T4 t4 v t) : PartR prog ok c res T s v t := by
  obtain ⟨s1, g1, l1⟩ := h1
  obtain ⟨o, r, f, xs, e1, e2, e3, e4, e5, e6⟩ := isCall_ok hcall
  obtain ⟨T2, s2, b1, b2, b3⟩ := hbody
  obtain ⟨s4, g4, l4⟩ := h3
  obtain ⟨T5, s5, g5, e7, l5⟩ := hr
  refine ⟨T5, s5, ?_, e7, l5⟩
  rw [seqRegion hc]
  refine .seq _ _ _ _ _ _ _ _ _ _ (.region _ _ _ _ _ ?_) l4 g5
  have call : RunsG prog ok (.ops [o]) ⟨n, R1, .nil⟩ (stL L next base wr) ((⟨n, R1, .nil⟩ : Tmps).putO o.dst vv) ⟨s2.heap, s2.next, (stL L next base wr).base, noteAll (stL L next base wr) s2.wr, (stL L next base wr).hid⟩ := by
    refine .opsCall o f xs g [] [] af vv .ret _ T2 _ s2 e2 e3 e4 hp hk ?_ (.inr rfl) b2
    rw [e5]
    simp only [List.nil_append, List.append_nil]
    rw [hT0]
    exact b1
  rw [e6, hT2] at call
  have two := RunsG.opsApp _ _ _ _ _ _ _ _ _ call (less_after rfl b3 hw) g4
  have hd : [o] ++ dropO (i + 1) (regOps c) = dropO i (regOps c) := by rw [dropO_succ e1, e1]; rfl
  rw [hd] at two
  have all := RunsG.opsApp _ _ _ _ _ _ _ _ _ g1 l1 two
  rw [take_drop] at all
  exact all

end Go.Qa
end
