/- What the functions of both sides compute, in plain Lean. -/
import Derived.Test.YtiepllpgifnloaaGreatV4
set_option linter.unusedSimpArgs false
set_option linter.unusedVariables false
namespace Go.Proofs.YtiepllpgifnloaaGreat.Px
open Go.Proofs.YtiepllpgifnloaaGreat.Vx
def v0 : Val := ⟨0, 0, 0⟩
def w0_ : Wtr := ⟨0, 0, v0⟩
def o0_ : Ob := ⟨0, [], false, 0, [], false, 0, 0, [], []⟩
def f0_ : Frm := ⟨0, 0, [], 0, [], false, v0⟩
def g0_ : Gor := ⟨0, 0, 0, []⟩
def m0_ : Mac := ⟨[], [], [], []⟩
def i0_ : Ins := ⟨0, 0, 0, 0, 0⟩
def atZ {α : Type} (l : List α) (i : Int) : Option α := if 0 ≤ i then l[i.toNat]? else none
def isIn {α : Type} (l : List α) (i : Int) : Bool := decide (0 ≤ i) && decide (i < (l.length : Int))
def modLast {α : Type} (f : α → α) : List α → List α
  | [] => []
  | [x] => [f x]
  | x :: y :: l => x :: modLast f (y :: l)
def w64 (n : Int) : Int := IntKind.i64.wrap n
def valEq (a b : Val) : Bool := a.kind == b.kind && a.n == b.n && a.off == b.off
def validVal (v : Val) : Bool :=
  if v.kind == 0 then v.off == 0
  else if v.kind == 1 then v.n == 0 && v.off == 0
  else if v.kind == 2 then decide (0 ≤ v.n) && decide (0 ≤ v.off) && decide (v.off ≤ 64)
  else false
def findO (l : List Ob) (id : Int) : Option Ob := l.find? fun o => o.id == id
def putO : List Ob → Ob → List Ob
  | [], o => [o]
  | x :: l, o => if o.id ≤ x.id then o :: (x :: l).filter (fun y => !(y.id == o.id)) else x :: putO l o
def regG (g : Gor) (r : Int) : Val :=
  match g.frames.getLast? with
  | none => v0
  | some f => (atZ f.regs r).getD v0
def setG (g : Gor) (r : Int) (v : Val) : Gor :=
  { g with frames := modLast (fun f => if isIn f.regs r then { f with regs := f.regs.set r.toNat v } else f) g.frames }
def pcG (g : Gor) : Int := (g.frames.getLast?.getD f0_).pc
def jumpG (g : Gor) (pc : Int) : Gor := { g with frames := modLast (fun f => { f with pc := pc }) g.frames }
def failG (g : Gor) (fault : Int) : Gor := { g with state := 3, fault := fault }
def without (l : List Wtr) (g : Int) : List Wtr := l.filter fun w => !(w.g == g)
def leaveO (o : Ob) (g : Int) : Ob := { o with senders := without o.senders g, receivers := without o.receivers g }
def otherW (l : List Wtr) (g : Int) : Option Wtr := l.find? fun w => !(w.g == g)
def sendReady (o : Ob) : Bool := o.closed || decide (0 < o.receivers.length) || decide ((o.queue.length : Int) < o.cap)
def recvReady (o : Ob) : Bool := o.closed || decide (0 < o.senders.length) || decide (0 < o.queue.length)
def t0_ : Trf := ⟨0, v0, false, 0, false, w0_, 0, [], []⟩
def sendO (o : Ob) (w : Wtr) : Ob × Trf :=
  if o.closed then (o, { t0_ with status := 2 })
  else match otherW o.receivers w.g with
    | some r => ({ leaveO o r.g with sent := w64 (o.sent + 1), received := w64 (o.received + 1) }, { t0_ with value := w.val, ok := true, number := o.sent, paired := true, partner := r, partnerNumber := o.sent })
    | none =>
      if (o.queue.length : Int) < o.cap then ({ o with queue := o.queue ++ [w.val], sent := w64 (o.sent + 1) }, { t0_ with value := w.val, ok := true, number := o.sent })
      else ({ o with senders := o.senders ++ [w] }, { t0_ with status := 1 })
def recvO (o : Ob) (w : Wtr) : Ob × Trf :=
  let rest : Ob × Trf :=
    match o.queue with
    | v :: l => ({ o with queue := l, received := w64 (o.received + 1) }, { t0_ with value := v, ok := true, number := o.received })
    | [] => if o.closed then (o, { t0_ with number := o.received }) else ({ o with receivers := o.receivers ++ [{ w with val := v0 }] }, { t0_ with status := 1 })
  match otherW o.senders w.g with
  | none => rest
  | some s =>
    if o.cap = 0 then ({ leaveO o s.g with sent := w64 (o.sent + 1), received := w64 (o.received + 1) }, { t0_ with value := s.val, ok := true, number := o.received, paired := true, partner := s, partnerNumber := o.sent })
    else match o.queue with
      | v :: l => ({ leaveO o s.g with queue := l ++ [s.val], sent := w64 (o.sent + 1), received := w64 (o.received + 1) }, { t0_ with value := v, ok := true, number := o.received, paired := true, partner := s, partnerNumber := o.sent })
      | [] => rest
end Go.Proofs.YtiepllpgifnloaaGreat.Px
namespace Go.Proofs.YtiepllpgifnloaaGreat.Px
open Go.Proofs.YtiepllpgifnloaaGreat.Vx
def visible (op : Int) : Bool := decide (31 ≤ op) && decide (op ≤ 50) || op == 52
def gorOf (m : Mac) (g : Int) : Gor := (atZ m.goroutines g).getD g0_
def topF (g : Gor) : Frm := g.frames.getLast?.getD f0_
def current (p : Prg) (m : Mac) (g : Int) : Option Ins :=
  match atZ m.goroutines g with
  | none => none
  | some x =>
    if x.state = 0 then
      match x.frames.getLast? with
      | none => none
      | some f =>
        match atZ p.funcs f.fn with
        | none => none
        | some c => atZ c.code f.pc
    else none
def atM (p : Prg) (m : Mac) (g : Int) : Option Ins :=
  match current p m g with
  | none => none
  | some x => if visible x.op then some x else none
def codeOf (p : Prg) (m : Mac) (g : Int) : List Ins :=
  let f := topF (gorOf m g)
  match atZ p.funcs f.fn with
  | none => []
  | some c => c.code.drop f.pc.toNat
def beforeS (a b : Syn) : Bool :=
  if a.obj ≠ b.obj then decide (a.obj < b.obj) else if a.off ≠ b.off then decide (a.off < b.off) else decide (a.kind < b.kind)
def varM (l : List Syn) (v : Val) (kind : Int) : Syn × Nat × Bool :=
  let s : Syn := ⟨v.n, v.off, kind, -1, [], 0⟩
  let i := (l.takeWhile fun x => beforeS x s).length
  match l[i]? with
  | some x => if beforeS s x then (s, i, false) else (x, i, true)
  | none => (s, i, false)
def setVar (l : List Syn) (s : Syn) : List Syn :=
  let r := varM l ⟨0, s.obj, s.off⟩ s.kind
  if r.2.2 then l.set r.2.1 s else l.take r.2.1 ++ [s] ++ l.drop r.2.1
def gOK (g : Int) : Bool := decide (0 ≤ g) && decide (g < 8)
def lockValid (s : Syn) : Bool :=
  (s.kind == 1 || s.kind == 2) && decide (0 ≤ s.obj) && decide (0 ≤ s.off) && s.count_ == 0 && decide (-1 ≤ s.owner) && decide (s.owner < 8) &&
    (s.readers.isEmpty || (s.kind != 1 && decide (s.owner < 0))) && s.readers.all gOK
def canLock (s : Syn) : Bool := decide (s.owner < 0) && s.readers.isEmpty
def canRLock (s : Syn) : Bool := s.kind == 2 && decide (s.owner < 0)
def groupValid (s : Syn) : Bool :=
  decide (0 ≤ s.obj) && decide (0 ≤ s.off) && s.readers.isEmpty && decide (0 ≤ s.count_) &&
    (if s.kind = 3 then s.owner == -1 && decide (s.count_ ≤ 2 ^ 62) else s.kind == 4 && decide (-1 ≤ s.owner) && decide (s.owner < 8) && decide (s.count_ ≤ 1) && (s.owner == -1 || s.count_ == 0))
def canWait (s : Syn) : Bool := s.kind == 3 && s.count_ == 0
def onceState (s : Syn) : Int := if s.kind ≠ 4 then 0 else if 0 ≤ s.owner then 1 else if s.count_ = 1 then 2 else 0
def lockS (s : Syn) (g : Int) : Option Syn := if lockValid s && gOK g && canLock s then some { s with owner := g, readers := [] } else none
def rlockS (s : Syn) (g : Int) : Option Syn := if lockValid s && gOK g && canRLock s then some { s with readers := s.readers ++ [g] } else none
def unlockS (s : Syn) : Option Syn := if lockValid s && decide (0 ≤ s.owner) then some { s with owner := -1, readers := [] } else none
def runlockS (s : Syn) (g : Int) : Option Syn :=
  if lockValid s && gOK g && !s.readers.isEmpty then
    let k := if s.readers.contains g then s.readers.idxOf g else 0
    some { s with readers := s.readers.take k ++ s.readers.drop (k + 1) }
  else none
def addS (s : Syn) (n : Int) : Option Syn :=
  if groupValid s && s.kind == 3 && !(decide (n < 0) && decide (n < -s.count_) || decide (0 < n) && decide (2 ^ 62 - s.count_ < n)) then some { s with count_ := s.count_ + n } else none
def beginS (s : Syn) (g : Int) : Option Syn := if groupValid s && s.kind == 4 && gOK g && onceState s == 0 then some { s with owner := g } else none
def endS (s : Syn) : Option Syn := if groupValid s && s.kind == 4 && onceState s == 1 then some { s with owner := -1, count_ := 1 } else none
def checkM (m : Mac) (v : Val) : Ob × Int :=
  if v.kind ≠ 2 then (o0_, 1)
  else match findO m.objects v.n with
    | none => (o0_, 1)
    | some o => if o.chan then (o0_, 1) else if isIn o.cells_ v.off then (o, 0) else (o0_, 2)
def loadM (m : Mac) (v : Val) : Val × Int :=
  let r := checkM m v
  if r.2 = 0 then ((atZ r.1.cells_ v.off).getD v0, 0) else (v0, r.2)
def storeM (m : Mac) (v x : Val) : Mac :=
  let r := checkM m v
  { m with objects := putO m.objects { r.1 with cells_ := r.1.cells_.set v.off.toNat x } }
def chanM (m : Mac) (v : Val) : Ob × Int :=
  if v.kind = 1 then (o0_, 1)
  else if v.kind ≠ 2 then (o0_, 2)
  else match findO m.objects v.n with
    | none => (o0_, 2)
    | some o => if o.chan then (o, 0) else (o0_, 2)
def selectable (m : Mac) (s : Gor) : List Ins → Nat → Bool → List Int → Option (Bool × List Int)
  | [], _, some_, l => some (some_, l)
  | c :: cs, i, some_, l =>
    let r := chanM m (regG s c.a)
    if r.2 = 2 then none
    else if r.2 = 1 then selectable m s cs (i + 1) some_ l
    else selectable m s cs (i + 1) true (if (c.b == 1 && sendReady r.1) || (c.b == 0 && recvReady r.1) then l ++ [(i : Int)] else l)
def casesM (p : Prg) (m : Mac) (g : Int) : List Int :=
  match atM p m g with
  | none => []
  | some x =>
    let s := gorOf m g
    let a := regG s x.a
    if x.op = 50 then
      let cs := ((codeOf p m g).drop 1).take x.b.toNat
      match selectable m s cs 0 (x.c == 1) [] with
      | none => [0]
      | some (some_, l) => if l.isEmpty && some_ then [(cs.length : Int)] else l
    else
      let ready : Bool :=
        if x.op = 47 then (chanM m a).2 != 1
        else if x.op = 48 then (chanM m (regG s x.b)).2 != 1
        else if (x.op = 39 ∨ x.op = 41 ∨ x.op = 44 ∨ x.op = 45) ∧ (checkM m a).2 = 0 then
          (x.op == 39 && canLock (varM m.syncs a 2).1) || (x.op == 41 && canRLock (varM m.syncs a 2).1) || (x.op == 44 && canWait (varM m.syncs a 3).1) || (x.op == 45 && onceState (varM m.syncs a 4).1 != 1)
        else true
      if ready then [0] else []
end Go.Proofs.YtiepllpgifnloaaGreat.Px
namespace Go.Proofs.YtiepllpgifnloaaGreat.Px
open Go.Proofs.YtiepllpgifnloaaGreat.Vx
def intOfV (v : Val) : Int := if v.kind = 0 then v.n else 0
def num (n : Int) : Val := ⟨0, n, 0⟩
def truthV (b : Bool) : Val := if b then num 1 else num 0
def withG (m : Mac) (g : Int) (x : Gor) : Mac := { m with goroutines := m.goroutines.set g.toNat x }
def updG (m : Mac) (g : Int) (f : Gor → Gor) : Mac := withG m g (f (gorOf m g))
def failM (m : Mac) (g fault : Int) : Mac := updG m g fun x => failG x fault
def jumpM (m : Mac) (g pc : Int) : Mac := updG m g fun x => jumpG x pc
def pcM (m : Mac) (g : Int) : Int := pcG (gorOf m g)
def putM (m : Mac) (g r : Int) (v : Val) : Mac := updG m g fun x => jumpG (setG x r v) (w64 (pcG x + 1))
def arith (op : Int) (v w : Val) : Val × Int :=
  let a := intOfV v
  let b := intOfV w
  if op = 4 then (num (w64 (a + b)), 0)
  else if op = 5 then (num (w64 (a - b)), 0)
  else if op = 6 then (num (w64 (a * b)), 0)
  else if op = 11 then (truthV (valEq v w), 0)
  else if op = 12 then (truthV (!valEq v w), 0)
  else if op = 13 then (truthV (decide (a < b)), 0)
  else if op = 14 then (truthV (decide (a ≤ b)), 0)
  else if b = 0 then (v0, 3)
  else if op = 7 then (num (w64 (a.tdiv b)), 0)
  else (num (a.tmod b), 0)
def closureM (p : Prg) (m : Mac) (v : Val) : Option Int :=
  let r := loadM m ⟨2, v.n, 0⟩
  if v.kind = 2 ∧ r.2 = 0 ∧ r.1.kind = 0 then
    match atZ p.funcs r.1.n with
    | some f => if f.params = 1 then some r.1.n else none
    | none => none
  else none
def argsG (x : Gor) (from_ : Int) (n : Int) : List Val := (List.range n.toNat).map fun (i : Nat) => regG x (w64 (from_ + (i : Int)))
def enterG (p : Prg) (x : Gor) (fn : Int) (args : List Val) (dest : Int) : Option Gor :=
  match atZ p.funcs fn with
  | none => none
  | some f =>
    if (args.length : Int) = f.params ∧ (args.length : Int) ≤ f.regs ∧ x.frames.length < 32 then
      some { x with frames := x.frames ++ [⟨fn, 0, args ++ List.replicate (f.regs.toNat - args.length) v0, dest, [], false, v0⟩] }
    else none
def deferG (x : Gor) (d : Dfr) : Gor := { x with frames := modLast (fun f => { f with defers := f.defers ++ [d] }) x.frames }
def unwind (p : Prg) : Nat → Gor → Gor
  | 0, x => x
  | n + 1, x =>
    match x.frames.getLast? with
    | none => { x with state := 2 }
    | some f =>
      if f.leaving then
        match f.defers.getLast? with
        | some d =>
          let y := { x with frames := modLast (fun f => { f with defers := f.defers.dropLast }) x.frames }
          (enterG p y d.fn d.args (-1)).getD (failG y 9)
        | none =>
          let l := x.frames.dropLast
          unwind p n { x with frames := modLast (fun c => if isIn c.regs f.dest then { c with regs := c.regs.set f.dest.toNat f.result } else c) l }
      else x
def leaveG (p : Prg) (x : Gor) (r : Val) : Gor :=
  match x.frames.getLast? with
  | none => x
  | some f =>
    let y := if f.leaving then x else { x with frames := modLast (fun f => { f with leaving := true, result := r }) x.frames }
    unwind p (x.frames.length + 1) y
def createM (m : Mac) (g r : Int) (o : Ob) : Mac :=
  let n := (gorOf m g).allocs
  if 0 ≤ n ∧ n < 200 ∧ g < 8 then
    let id := 1 + g + 8 * n
    putM (updG { m with objects := putO m.objects { o with id := id } } g fun x => { x with allocs := n + 1 }) g r ⟨2, id, 0⟩
  else failM m g 9
def enterM (p : Prg) (m : Mac) (g fn : Int) (args : List Val) (dest : Int) : Mac :=
  let next := jumpM m g (w64 (pcM m g + 1))
  match enterG p (gorOf next g) fn args dest with
  | none => failM m g 9
  | some x => withG next g x
def referM (m : Mac) (v : Val) (off : Int) : Val × Int :=
  if v.kind ≠ 2 then (v, 1)
  else match findO m.objects v.n with
    | none => (v, 1)
    | some o => if o.chan then (v, 1) else if isIn o.cells_ off then (⟨2, v.n, off⟩, 0) else (v, 2)
def zeroV (k : Int) : Val := if k = 1 then ⟨1, 0, 0⟩ else v0
def allocM (p : Prg) (m : Mac) (g : Int) (x : Ins) : Mac :=
  let s := gorOf m g
  let n := intOfV (regG s x.b)
  if x.op = 21 then createM m g x.a { o0_ with cells_ := ((atZ p.layouts x.b).getD []).map zeroV }
  else if x.op = 24 then createM m g x.a { o0_ with cells_ := num x.b :: argsG s (w64 (x.a + 1)) x.c }
  else if n < 0 ∨ 64 < n then failM m g 7
  else if x.op = 23 then createM m g x.a { o0_ with chan := true, cap := n }
  else createM m g x.a { o0_ with cells_ := List.replicate n.toNat v0 }
def paramsOf (p : Prg) (fn : Int) : Int := ((atZ p.funcs fn).map (·.params)).getD 0
def localM (p : Prg) (m : Mac) (g : Int) (x : Ins) : Mac :=
  let s := gorOf m g
  let a := regG s x.a
  let b := regG s x.b
  let c := regG s x.c
  let done (r : Val × Int) : Mac := if r.2 = 0 then putM m g x.a r.1 else failM m g r.2
  if x.op = 1 then done (num x.b, 0)
  else if x.op = 2 then done (⟨1, 0, 0⟩, 0)
  else if x.op = 3 then done (b, 0)
  else if x.op = 9 then done (num (w64 (-intOfV b)), 0)
  else if x.op = 10 then done (num (w64 (1 - intOfV b)), 0)
  else if x.op = 15 then
    if b.kind = 1 then done (v0, 0)
    else match findO m.objects b.n with
      | none => done (v0, 1)
      | some o => if b.kind ≠ 2 then done (v0, 1) else done (num (o.cells_.length : Int), 0)
  else if x.op = 16 then jumpM m g x.c
  else if x.op = 17 then if intOfV a = 0 then jumpM m g x.c else jumpM m g (w64 (pcM m g + 1))
  else if x.op = 18 then done (⟨2, 0, x.b⟩, 0)
  else if x.op = 19 then done (referM m b (w64 (b.off + x.c)))
  else if x.op = 20 then done (referM m b (intOfV c))
  else if x.op = 25 then let o := regG s 0; done (loadM m ⟨o.kind, o.n, w64 (x.b + 1)⟩)
  else if x.op = 21 ∨ x.op = 22 ∨ x.op = 23 ∨ x.op = 24 then allocM p m g x
  else if x.op = 26 then enterM p m g x.b (argsG s x.c (paramsOf p x.b)) x.a
  else if x.op = 28 then jumpM (withG m g (deferG s ⟨x.b, argsG s x.c (paramsOf p x.b)⟩)) g (w64 (pcM m g + 1))
  else if x.op = 27 ∨ x.op = 29 then
    match closureM p m a with
    | none => failM m g 1
    | some fn => if x.op = 27 then enterM p m g fn [a] (-1) else jumpM (withG m g (deferG s ⟨fn, [a]⟩)) g (w64 (pcM m g + 1))
  else if x.op = 30 then withG m g (leaveG p s (if x.a < 0 then v0 else a))
  else if x.op = 4 ∨ x.op = 5 ∨ x.op = 6 ∨ x.op = 7 ∨ x.op = 8 ∨ x.op = 11 ∨ x.op = 12 ∨ x.op = 13 ∨ x.op = 14 then done (arith x.op b c)
  else failM m g 8
def settleN (p : Prg) (g : Int) : Nat → Mac → Mac
  | n, m =>
    match current p m g with
    | none => m
    | some x =>
      if visible x.op then m
      else match n with
        | 0 => failM m g 8
        | n + 1 => settleN p g n (localM p m g x)
def settleM (p : Prg) (m : Mac) (g : Int) : Mac := settleN p g 2000 m
def eventM (m : Mac) (g kind : Int) (v : Val) : Ev :=
  let f := topF (gorOf m g)
  ⟨g, kind, v.n, v.off, 0, 0, f.fn, f.pc, 0⟩
def memoryM (m : Mac) (g : Int) (x : Ins) : Mac × List Ev :=
  let s := gorOf m g
  let store := x.op = 34 ∨ x.op = 36
  let ref := if store then regG s x.a else regG s x.b
  let v := regG s x.b
  let r := loadM m ref
  if r.2 ≠ 0 then (failM m g r.2, [])
  else if x.op = 33 ∨ x.op = 35 then (putM m g x.a r.1, [eventM m g (if x.op = 35 then 3 else 1) ref])
  else if store then (jumpM (storeM m ref v) g (w64 (pcM m g + 1)), [eventM m g (if x.op = 36 then 4 else 2) ref])
  else if x.op = 37 then
    let sum := num (w64 (intOfV r.1 + intOfV (regG s x.c)))
    (putM (storeM m ref sum) g x.a sum, [eventM m g 5 ref])
  else if !valEq r.1 (regG s x.c) then (putM m g x.a (num 0), [eventM m g 3 ref])
  else (putM (storeM m ref (regG s (w64 (x.c + 1)))) g x.a (num 1), [eventM m g 5 ref])
def syncM (m : Mac) (g : Int) (x : Ins) : Mac × List Ev :=
  let s := gorOf m g
  let ref := regG s x.a
  let f := (checkM m ref).2
  if f ≠ 0 then (failM m g f, [])
  else
    let lock := (varM m.syncs ref 2).1
    let group := (varM m.syncs ref 3).1
    let once := (varM m.syncs ref 4).1
    let next := w64 (pcM m g + 1)
    let n := intOfV (regG s x.b)
    -- kind, the variable, where to go on, the fault
    let r : Int × Option Syn × Int × Int :=
      if x.op = 39 then (6, lockS lock g, next, 5)
      else if x.op = 41 then (8, rlockS lock g, next, 5)
      else if x.op = 40 then (7, unlockS lock, next, 5)
      else if x.op = 42 then (9, runlockS lock g, next, 5)
      else if x.op = 43 then (if n < 0 then 10 else 0, addS group n, next, 6)
      else if x.op = 44 then (11, some group, next, 5)
      else if x.op = 45 then (if onceState once = 2 then (13, some once, x.c, 5) else (0, beginS once g, next, 5))
      else if x.op = 46 then (12, endS once, next, 5)
      else (0, some lock, next, 5)
    match r.2.1 with
    | none => (failM m g r.2.2.2, [])
    | some v => (jumpM { m with syncs := setVar m.syncs v } g r.2.2.1, if r.1 = 0 then [] else [eventM m g r.1 ref])
def finishM (p : Prg) (m : Mac) (g number : Int) (receives : Bool) (v : Val) (ok : Bool) : Mac :=
  let l := codeOf p m g
  let c := l.headD i0_
  let s := gorOf m g
  let next := w64 (pcM m g + 1)
  let r : Gor × Int × Int × Int :=
    if 0 ≤ number then (setG s c.a (num number), w64 (next + c.b), ((atZ l (1 + number)).getD i0_).c, -1)
    else (s, next, c.a, c.c)
  let s1 := if receives && decide (0 ≤ r.2.2.1) then setG r.1 r.2.2.1 v else r.1
  let s2 := if receives && decide (0 ≤ r.2.2.2) then setG s1 r.2.2.2 (truthV ok) else s1
  jumpM (withG m g s2) g r.2.1
def completeM (p : Prg) (m : Mac) (w : Wtr) (receives : Bool) (v : Val) (ok : Bool) : Mac :=
  let m1 : Mac := { m with objects := m.objects.map fun o => if o.chan then leaveO o w.g else o }
  finishM p (updG m1 w.g fun x => { x with state := 0 }) w.g w.case_ receives v ok
def transferM (m : Mac) (g kind : Int) (o : Ob) (k : Int) : Ev := { eventM m g kind ⟨0, o.id, 0⟩ with k := k, n := o.cap }
def exchangeM (p : Prg) (m : Mac) (g number : Int) (ch : Val) (sends : Bool) (v : Val) : Mac × List Ev × List Int :=
  let c := chanM m ch
  if c.2 ≠ 0 then (failM m g 1, [], [g])
  else
    let o := c.1
    let r := if sends then sendO o ⟨g, number, v⟩ else recvO o ⟨g, number, v0⟩
    let t := r.2
    let out : Mac := { m with objects := putO m.objects r.1 }
    if t.status = 2 then (failM m g 4, [], [g])
    else if t.status = 1 then (updG out g fun x => { x with state := 1 }, [], [])
    else if !sends && !t.ok then (finishM p out g number true t.value false, [transferM m g 20 o 0], [g])
    else
      let out := finishM p out g number (!sends) t.value true
      if !t.paired && sends then (out, [transferM m g 15 o t.number, transferM m g 16 o t.number], [g])
      else if !t.paired then (out, [transferM m g 17 o t.number, transferM m g 18 o t.number], [g])
      else
        let q := t.partner.g
        let out := completeM p out t.partner sends t.value true
        let gs := [min g q, max g q]
        if sends then (out, [transferM m q 17 o t.partnerNumber, transferM m g 15 o t.number, transferM m q 18 o t.partnerNumber, transferM m g 16 o t.number], gs)
        else if o.cap = 0 then (out, [transferM m q 15 o t.partnerNumber, transferM m g 17 o t.number, transferM m g 18 o t.number, transferM m q 16 o t.partnerNumber], gs)
        else (out, [transferM m g 17 o t.number, transferM m g 18 o t.number, transferM m q 15 o t.partnerNumber, transferM m q 16 o t.partnerNumber], gs)
end Go.Proofs.YtiepllpgifnloaaGreat.Px
namespace Go.Proofs.YtiepllpgifnloaaGreat.Px
open Go.Proofs.YtiepllpgifnloaaGreat.Vx
def s0_ : Syn := ⟨0, 0, 0, 0, [], 0⟩
def allI {α : Type} (P : Nat → α → Bool) (l : List α) : Bool := (List.range l.length).all fun i => match l[i]? with | some x => P i x | none => true
theorem allI_iff {α : Type} {P : Nat → α → Bool} {l : List α} : allI P l = true ↔ ∀ (j : Nat) (x : α), l[j]? = some x → P j x = true := by
  unfold allI
  rw [List.all_eq_true]
  constructor
  · intro h j x hx
    have := h j (List.mem_range.2 (List.getElem?_eq_some_iff.1 hx).1)
    rw [hx] at this
    exact this
  · intro h j _
    cases e : l[j]? with
    | none => rfl
    | some x => exact h j x e
theorem allI_yes {α : Type} {P : Nat → α → Bool} {l : List α} (h : ∀ (j : Nat) (x : α), l[j]? = some x → P j x = true) : allI P l = true := allI_iff.2 h
theorem allI_no {α : Type} {P : Nat → α → Bool} {l : List α} {k : Nat} {x : α} (h : l[k]? = some x) (hp : P k x = false) : allI P l = false :=
  Bool.eq_false_iff.2 fun h' => by
    have := allI_iff.1 h' k x h
    rw [hp] at this
    cases this
theorem bool_iff {a b : Bool} (h : a = true ↔ b = true) : a = b := by
  cases a <;> cases b <;> simp_all
def wtrOk (w : Wtr) : Bool := decide (0 ≤ w.g) && decide (w.g < 8) && decide (-1 ≤ w.case_) && decide (w.case_ ≤ 7) && validVal w.val
def plainOb (o : Ob) : Bool := o.cap == 0 && o.queue.isEmpty && !o.closed && o.sent == 0 && o.received == 0 && o.senders.isEmpty && o.receivers.isEmpty
def chanOb (o : Ob) : Bool := o.cells_.isEmpty && decide (0 ≤ o.cap) && decide (o.cap ≤ 64) && decide ((o.queue.length : Int) ≤ o.cap) && o.queue.all validVal && decide (0 ≤ o.sent) && decide (0 ≤ o.received) && o.senders.all wtrOk && o.receivers.all wtrOk
def obOkR (l : List Ob) (i : Nat) (o : Ob) : Bool := decide (0 ≤ o.id) && (i == 0 || decide ((l[i - 1]?.getD o0_).id < o.id)) && decide (o.cells_.length ≤ 64) && o.cells_.all validVal && (if o.chan then chanOb o else plainOb o)
def heapOkR (l : List Ob) : Bool := allI (obOkR l) l
def clash (x y : Wtr) : Bool := y.g == x.g && (y.case_ == x.case_ || y.case_ == -1 || x.case_ == -1)
def both (a b : List Wtr) : Bool := !a.isEmpty && !b.isEmpty
def wtI (bo : Bool) (x y : Wtr) : Bool := !clash x y && !(bo && !(y.g == x.g))
def wtR (bo : Bool) (l : List Wtr) (i : Nat) (x : Wtr) : Bool := decide (0 ≤ x.g) && decide (x.g < 8) && decide (-1 ≤ x.case_) && (l.take i).all (wtI bo x)
def wt17 (a b : List Wtr) : Bool := allI (wtR (both a b) (a ++ b)) (a ++ b)
def noVal (w : Wtr) : Bool := valEq w.val v0
def chan17R (o : Ob) : Bool :=
  o.chan && o.cells_.isEmpty && decide (0 ≤ o.cap) && decide (o.cap ≤ 64) && decide ((o.queue.length : Int) ≤ o.cap) && decide (0 ≤ o.received) && decide (o.received ≤ 1099511627776) && o.sent == o.received + (o.queue.length : Int) &&
    !(o.closed && (!o.senders.isEmpty || !o.receivers.isEmpty)) && !(!o.senders.isEmpty && decide ((o.queue.length : Int) < o.cap)) && !(!o.receivers.isEmpty && !o.queue.isEmpty) && o.receivers.all noVal && wt17 o.senders o.receivers
def dfrOk (p : Prg) (d : Dfr) : Bool := match atZ p.funcs d.fn with | some f => (d.args.length : Int) == f.params && d.args.all validVal | none => false
def frmOk (p : Prg) (l : List Frm) (i : Nat) (f : Frm) : Bool :=
  match atZ p.funcs f.fn with
  | none => false
  | some c => (f.regs.length : Int) == c.regs && decide (0 ≤ f.pc) && decide (f.pc < (c.code.length : Int)) && f.regs.all validVal && validVal f.result && decide (-1 ≤ f.dest) && (if i = 0 then f.dest == -1 else decide (f.dest < ((l[i - 1]?.getD f0_).regs.length : Int))) && f.defers.all (dfrOk p)
def gorHead (g : Gor) : Bool :=
  decide (0 ≤ g.state) && decide (g.state ≤ 3) && decide (0 ≤ g.fault) && decide (g.fault ≤ 9) && ((g.state == 3) == (g.fault != 0)) && decide (0 ≤ g.allocs) && decide (g.allocs ≤ 200) && decide (g.frames.length ≤ 32) && ((g.state == 2) == g.frames.isEmpty)
def gorOk (p : Prg) (g : Gor) : Bool := gorHead g && allI (frmOk p g.frames) g.frames
def synOk (l : List Syn) (i : Nat) (s : Syn) : Bool := (lockValid s || groupValid s) && (i == 0 || beforeS (l[i - 1]?.getD s0_) s)
def headOk (p : Prg) (m : Mac) : Bool :=
  match m.objects[0]? with
  | none => false
  | some o => o.id == 0 && !o.chan && o.cells_.length == p.globals.length
def chOkR (o : Ob) : Bool := !o.chan || chan17R o
def validR (p : Prg) (m : Mac) : Bool :=
  heapOkR m.objects && !m.goroutines.isEmpty && decide (m.goroutines.length ≤ 8) && headOk p m && m.goroutines.all (gorOk p) && m.objects.all chOkR && allI (synOk m.syncs) m.syncs
def obOkP (o : Ob) : Bool := if o.chan then chanOb o else decide (o.cells_.length ≤ 64) && o.cells_.all validVal && plainOb o
def prevId (l : List Ob) (i : Nat) : Int := if i = 0 then -1 else (l[i - 1]?.getD o0_).id
def obI (l : List Ob) (i : Nat) (o : Ob) : Bool := decide (prevId l i < o.id) && obOkP o
def heapOkP (l : List Ob) : Bool := allI (obI l) l
def wtJ (x y : Wtr) : Bool := !clash x y
def wtP (bo : Bool) (l : List Wtr) (i : Nat) (x : Wtr) : Bool := gOK x.g && decide (-1 ≤ x.case_) && !(bo && !(x.g == (l[0]?.getD w0_).g)) && (l.take i).all (wtJ x)
def chan17P (o : Ob) : Bool :=
  o.chan && o.cells_.isEmpty && decide (0 ≤ o.cap) && decide (o.cap ≤ 64) && decide ((o.queue.length : Int) ≤ o.cap) && decide (0 ≤ o.received) && decide (o.received ≤ 1099511627776) && o.sent == o.received + (o.queue.length : Int) &&
    !(o.closed && decide (0 < o.senders.length + o.receivers.length)) && !(!o.senders.isEmpty && !((o.queue.length : Int) == o.cap)) && !(!o.receivers.isEmpty && !o.queue.isEmpty) && o.receivers.all noVal && allI (wtP (both o.senders o.receivers) (o.senders ++ o.receivers)) (o.senders ++ o.receivers)
def chOkP (o : Ob) : Bool := !o.chan || chan17P o
def validP (p : Prg) (m : Mac) : Bool :=
  heapOkP m.objects && headOk p m && m.objects.all chOkP && !m.goroutines.isEmpty && decide (m.goroutines.length ≤ 8) && m.goroutines.all (gorOk p) && allI (synOk m.syncs) m.syncs
theorem heap_eq (l : List Ob) : heapOkP l = heapOkR l := by
  apply bool_iff
  unfold heapOkP heapOkR
  rw [allI_iff, allI_iff]
  constructor
  · intro h
    have pos : ∀ (j : Nat) (x : Ob), l[j]? = some x → 0 ≤ x.id := by
      intro j
      induction j with
      | zero =>
        intro x hx
        have := h 0 x hx
        simp [obI, prevId] at this
        omega
      | succ j ih =>
        intro x hx
        have h1 := h (j + 1) x hx
        have hl := (List.getElem?_eq_some_iff.1 hx).1
        have h2 := ih l[j] (List.getElem?_eq_getElem (by omega))
        simp [obI, prevId, List.getElem?_eq_getElem (show j < l.length by omega)] at h1
        omega
    intro j x hx
    have h1 := h j x hx
    have h2 := pos j x hx
    simp only [obI, obOkP, Bool.and_eq_true, decide_eq_true_eq] at h1
    obtain ⟨h3, h4⟩ := h1
    unfold obOkR
    cases hc : x.chan
    · simp only [hc, Bool.false_eq_true, if_false, Bool.and_eq_true, decide_eq_true_eq] at h4
      simp only [h2, h4, hc, decide_true, Bool.true_and, Bool.and_true, Bool.false_eq_true, if_false]
      unfold prevId at h3
      by_cases h0 : j = 0
      · simp [h0]
      · simp only [h0, if_false] at h3
        simp [h0, h3]
    · simp only [hc, if_true] at h4
      have h5 : x.cells_ = [] := by
        simp only [chanOb, Bool.and_eq_true, List.isEmpty_iff] at h4
        exact h4.1.1.1.1.1.1.1.1
      simp only [h2, h4, hc, h5, decide_true, Bool.true_and, Bool.and_true, if_true, List.length_nil, Nat.zero_le, List.all_nil]
      unfold prevId at h3
      by_cases h0 : j = 0
      · simp [h0]
      · simp only [h0, if_false] at h3
        simp [h0, h3]
  · intro h j x hx
    have h1 := h j x hx
    simp only [obOkR, Bool.and_eq_true, Bool.or_eq_true, decide_eq_true_eq, beq_iff_eq] at h1
    obtain ⟨⟨⟨⟨h2, h3⟩, h4⟩, h5⟩, h6⟩ := h1
    have h7 : prevId l j < x.id := by
      unfold prevId
      split
      · omega
      · omega
    unfold obI obOkP
    simp only [h7, decide_true, Bool.true_and]
    cases hc : x.chan
    · simp only [hc, Bool.false_eq_true, if_false] at h6 ⊢
      simp [h4, h5, h6]
    · simp only [hc, if_true] at h6 ⊢
      exact h6
theorem wt_eq (bo : Bool) (l : List Wtr) : allI (wtP bo l) l = allI (wtR bo l) l := by
  apply bool_iff
  rw [allI_iff, allI_iff]
  have tk : ∀ {i : Nat} {y : Wtr}, y ∈ l.take i → ∃ k, k < i ∧ l[k]? = some y := by
    intro i y hy
    obtain ⟨k, hk, rfl⟩ := List.mem_iff_getElem.1 hy
    rw [List.length_take] at hk
    exact ⟨k, by omega, by rw [List.getElem_take, List.getElem?_eq_getElem]⟩
  constructor
  · intro h j x hx
    have h1 := h j x hx
    simp only [wtP, gOK, Bool.and_eq_true, decide_eq_true_eq] at h1
    obtain ⟨⟨⟨⟨h2, h3⟩, h4⟩, h5⟩, h6⟩ := h1
    simp only [wtR, Bool.and_eq_true, decide_eq_true_eq, h2, h3, h4, true_and]
    rw [List.all_eq_true] at h6 ⊢
    intro y hy
    have h7 := h6 y hy
    obtain ⟨k, hk, hky⟩ := tk hy
    have h8 := h k y hky
    simp only [wtP, Bool.and_eq_true] at h8
    have h9 := h8.1.2
    unfold wtI
    unfold wtJ at h7
    rw [h7]
    cases bo
    · rfl
    · simp only [Bool.true_and, Bool.not_not, beq_iff_eq] at h5 h9 ⊢
      rw [h9, h5]
  · intro h j x hx
    have h1 := h j x hx
    simp only [wtR, Bool.and_eq_true, decide_eq_true_eq] at h1
    obtain ⟨⟨⟨h2, h3⟩, h4⟩, h6⟩ := h1
    simp only [wtP, gOK, Bool.and_eq_true, decide_eq_true_eq, h2, h3, h4, true_and]
    rw [List.all_eq_true] at h6 ⊢
    refine ⟨?_, ?_⟩
    · cases bo
      · rfl
      · by_cases h0 : j = 0
        · subst h0
          simp [hx]
        · have hl := (List.getElem?_eq_some_iff.1 hx).1
          have := h6 l[0] (by
            rw [List.mem_iff_getElem]
            exact ⟨0, by rw [List.length_take]; omega, by rw [List.getElem_take]⟩)
          simp only [wtI, Bool.and_eq_true, Bool.true_and, Bool.not_not, beq_iff_eq] at this
          simp [List.getElem?_eq_getElem (show 0 < l.length by omega), this.2]
    · intro y hy
      have := h6 y hy
      simp only [wtI, Bool.and_eq_true] at this
      exact this.1
theorem chan_eq (o : Ob) : chan17P o = chan17R o := by
  unfold chan17P chan17R wt17
  rw [wt_eq]
  by_cases h : ((o.queue.length : Int) ≤ o.cap)
  · have e1 : decide (0 < o.senders.length + o.receivers.length) = (!o.senders.isEmpty || !o.receivers.isEmpty) := by
      cases o.senders <;> cases o.receivers <;> (try simp) <;> omega
    have e2 : (!((o.queue.length : Int) == o.cap)) = decide ((o.queue.length : Int) < o.cap) := by
      by_cases h2 : (o.queue.length : Int) = o.cap
      · simp [h2]
      · have h3 : (o.queue.length : Int) < o.cap := by omega
        rw [decide_eq_true h3, beq_false_of_ne h2]
        rfl
    rw [e1, e2]
  · simp [h]
theorem valid_eq (p : Prg) (m : Mac) : validP p m = validR p m := by
  have e : m.objects.all chOkP = m.objects.all chOkR := by
    congr 1
    funext o
    simp only [chOkP, chOkR, chan_eq]
  unfold validP validR
  rw [heap_eq, e]
  cases heapOkR m.objects <;> cases headOk p m <;> cases m.objects.all chOkR <;> cases m.goroutines.isEmpty <;> cases decide (m.goroutines.length ≤ 8) <;> cases m.goroutines.all (gorOk p) <;> cases allI (synOk m.syncs) m.syncs <;> rfl
end Go.Proofs.YtiepllpgifnloaaGreat.Px
namespace Go.Proofs.YtiepllpgifnloaaGreat.Px
open Go.Proofs.YtiepllpgifnloaaGreat.Vx
open Go.RowKit
abbrev dVal : Val := v0
abbrev dWtr : Wtr := w0_
abbrev dOb : Ob := o0_
abbrev dFrm : Frm := f0_
abbrev dSyn : Syn := s0_
def dDfr : Dfr := (RT.st SN.dfr).dflt
def dGor : Gor := (RT.st SN.gor).dflt
def dFnc : Fnc := (RT.st SN.fnc).dflt
abbrev dIns : Ins := i0_
def dGlb : Glb := (RT.st SN.glb).dflt
def dEv : Ev := (RT.st SN.ev).dflt
def dPck : Pck := (RT.st SN.pck).dflt
theorem maxLen_eq : maxLen = 9223372036854775807 := by simp [maxLen]
theorem wrap_id {n : Int} (h1 : -9223372036854775808 ≤ n) (h2 : n ≤ 9223372036854775807) : IntKind.wrap .i64 n = n := by
  first
  | (simp only [IntKind.wrap]; simp [IntKind.bits, IntKind.signed]; omega)
  | (unfold IntKind.wrap; simp; omega)
theorem wrap_succ {i n : Nat} (h : i < n) (hn : n ≤ maxLen) : IntKind.wrap .i64 ((i : Int) + 1) = ((i + 1 : Nat) : Int) := by
  rw [maxLen_eq] at hn
  rw [wrap_id (by omega) (by omega)]
  rfl
theorem getD_mem {α : Type} {l : List α} {i : Nat} {d : α} (h : i < l.length) : l.getD i d ∈ l := by
  rw [List.getD_eq_getElem?_getD, List.getElem?_eq_getElem h]; exact List.getElem_mem h
theorem all_of {α : Type} {l : List α} {p : α → Bool} {d : α} (h : ∀ j, j < l.length → p (l.getD j d) = true) : l.all p = true := by
  rw [List.all_eq_true]
  intro x hx
  obtain ⟨i, hi, rfl⟩ := List.mem_iff_getElem.1 hx
  have := h i hi
  rwa [List.getD_eq_getElem?_getD, List.getElem?_eq_getElem hi] at this
theorem all_not {α : Type} {l : List α} {p : α → Bool} {d : α} {i : Nat} (hi : i < l.length) (h : p (l.getD i d) = false) : l.all p = false := by
  cases e : l.all p with
  | false => rfl
  | true => rw [List.all_eq_true] at e; have := e _ (getD_mem (d := d) hi); rw [h] at this; cases this
theorem lt_dec {i n : Nat} (h : decide ((i : Int) < (n : Int)) = true) : i < n := by simpa using h
theorem ge_dec {i n : Nat} (h : decide ((i : Int) < (n : Int)) = false) : n ≤ i := by simpa using h
theorem bif_in {c : Bool} {P Q : Prop} (h1 : c = true → P) (h2 : c = false → Q) : cond c P Q := by cases c with | true => exact h1 rfl | false => exact h2 rfl
theorem allL {α : Type} {l : List α} {p : α → Bool} {d : α} {i : Nat} (h : i < l.length) (hall : (l.take i).all p = true) : (p (l.getD i d) = false → l.all p = false) ∧ (p (l.getD i d) = true → (l.take (i + 1)).all p = true) := by
  refine ⟨all_not h, fun hp => ?_⟩
  rw [List.take_succ_eq_append_getElem h, List.all_append, hall]
  rw [List.getD_eq_getElem?_getD, List.getElem?_eq_getElem h] at hp
  simpa using hp
theorem take_all {α : Type} {l : List α} {p : α → Bool} {i : Nat} (h : ¬ i < l.length) (hall : (l.take i).all p = true) : l.all p = true := by
  rwa [List.take_of_length_le (by omega)] at hall
theorem pre_in {Q : Prop} (h : Q) : True ∧ Q := ⟨trivial, h⟩
theorem idx_t1 {i n : Nat} (h : i < n) : decide ((i : Int) < (n : Int)) = true := by simpa using h
theorem idx_t2 {i n : Nat} (h : i < n) : decide ((0 : Int) ≤ (i : Int) ∧ (i : Int) < (n : Int)) = true := by simp; omega
theorem idx_f1 {i n : Nat} (h : ¬ i < n) : decide ((i : Int) < (n : Int)) = false := by simpa using h
theorem allI_not {α : Type} {f : Nat → α → Bool} {l : List α} {i : Nat} {d : α} (h : i < l.length) (hf : f i (l.getD i d) = false) : allI f l = false := by
  cases e : allI f l with
  | false => rfl
  | true =>
    rw [allI_iff] at e
    have := e i _ (List.getElem?_eq_getElem h)
    rw [List.getD_eq_getElem?_getD, List.getElem?_eq_getElem h] at hf
    rw [Option.getD_some, this] at hf; cases hf
theorem allI_of {α : Type} {f : Nat → α → Bool} {l : List α} {d : α} (h : ∀ j, j < l.length → f j (l.getD j d) = true) : allI f l = true := by
  rw [allI_iff]
  intro j x hx
  obtain ⟨hj, rfl⟩ := List.getElem?_eq_some_iff.1 hx
  have := h j hj
  rwa [List.getD_eq_getElem?_getD, List.getElem?_eq_getElem hj] at this
theorem allIL {α : Type} {f : Nat → α → Bool} {l : List α} {d : α} {i : Nat} (h : i < l.length) (hall : ∀ j, j < i → f j (l.getD j d) = true) : (f i (l.getD i d) = false → allI f l = false) ∧ (f i (l.getD i d) = true → ∀ j, j < i + 1 → f j (l.getD j d) = true) := by
  refine ⟨allI_not h, fun hp j hj => ?_⟩
  rcases Nat.lt_succ_iff_lt_or_eq.1 hj with h1 | rfl
  · exact hall j h1
  · exact hp
theorem wrap_pred {i n : Nat} (h : i < n) (h0 : 0 < i) (hn : n ≤ maxLen) : IntKind.wrap .i64 ((i : Int) - 1) = ((i - 1 : Nat) : Int) := by
  rw [maxLen_eq] at hn
  rw [wrap_id (by omega) (by omega)]
  omega
theorem idx_00 : decide (((0 : Nat) : Int) > 0) = false := by simp
theorem idx_0p {i : Nat} (h : 0 < i) : decide ((i : Int) > 0) = true := by simpa using h
end Go.Proofs.YtiepllpgifnloaaGreat.Px
namespace Go.Proofs.YtiepllpgifnloaaGreat.Px
open Go.Proofs.YtiepllpgifnloaaGreat.Vx
open Go.RowKit
abbrev BIG : Nat := 68719476736
def szOb (N : Nat) (o : Ob) : Prop := o.cells_.length ≤ N ∧ o.queue.length ≤ N ∧ o.senders.length ≤ N ∧ o.receivers.length ≤ N
def szSyn (N : Nat) (s : Syn) : Prop := s.readers.length ≤ N
def szDfr (N : Nat) (d : Dfr) : Prop := d.args.length ≤ N
def szFrm (N : Nat) (f : Frm) : Prop := f.regs.length ≤ N ∧ f.defers.length ≤ N ∧ ∀ d ∈ f.defers, szDfr N d
def szGor (N : Nat) (g : Gor) : Prop := g.frames.length ≤ N ∧ ∀ f ∈ g.frames, szFrm N f
def szMac (N : Nat) (m : Mac) : Prop := (m.objects.length ≤ N ∧ ∀ o ∈ m.objects, szOb N o) ∧ (m.syncs.length ≤ N ∧ ∀ s ∈ m.syncs, szSyn N s) ∧ (m.goroutines.length ≤ N ∧ ∀ g ∈ m.goroutines, szGor N g) ∧ m.output.length ≤ N
def szFnc (N : Nat) (f : Fnc) : Prop := f.code.length ≤ N
def szPrg (N : Nat) (p : Prg) : Prop := (p.funcs.length ≤ N ∧ ∀ f ∈ p.funcs, szFnc N f) ∧ p.globals.length ≤ N ∧ (p.layouts.length ≤ N ∧ ∀ l ∈ p.layouts, l.length ≤ N)
end Go.Proofs.YtiepllpgifnloaaGreat.Px
namespace Go.Proofs.YtiepllpgifnloaaGreat.Px
open Go.Proofs.YtiepllpgifnloaaGreat.Vx
theorem dlt (a b : Int) : decide (a < b) = !decide (b ≤ a) := by
  by_cases h : b ≤ a
  · have : ¬ a < b := by omega
    simp [h, this]
  · have : a < b := by omega
    simp [h, this]
theorem emp_dec {α : Type} (l : List α) : l.isEmpty = decide ((l.length : Int) ≤ 0) := by
  cases l with
  | nil => rfl
  | cons a l => simp
theorem cond_not {α : Sort _} (c : Bool) (a b : α) : (bif !c then a else b) = bif c then b else a := by cases c <;> rfl
theorem nle (a b : Nat) : decide (a ≤ b) = decide ((a : Int) ≤ (b : Int)) := by
  by_cases h : a ≤ b
  · have : (a : Int) ≤ b := by omega
    simp [h, this]
  · have : ¬ (a : Int) ≤ b := by omega
    simp [h, this]
theorem nlit (n : Nat) : ((no_index (OfNat.ofNat n) : Nat) : Int) = OfNat.ofNat n := rfl
theorem ite_int {α : Sort _} (a b : Int) (x y : α) : (if a = b then x else y) = bif a == b then x else y := by
  by_cases h : a = b
  · simp [h]
  · have : (a == b) = false := by simp [h]
    simp [h, this]
theorem len_eq0 {α : Type} (l : List α) : ((l.length : Int) == 0) = decide ((l.length : Int) ≤ 0) := by
  by_cases h : (l.length : Int) = 0
  · simp [h]
  · have h1 : ((l.length : Int) == 0) = false := beq_false_of_ne h
    have h2 : ¬ (l.length : Int) ≤ 0 := by omega
    rw [h1, decide_eq_false h2]
end Go.Proofs.YtiepllpgifnloaaGreat.Px
namespace Go.Proofs.YtiepllpgifnloaaGreat.Px
theorem neqi (a b : Nat) : (a == b) = ((a : Int) == (b : Int)) := by
  by_cases h : a = b
  · subst h; simp
  · have : ¬ (a : Int) = b := by omega
    rw [beq_false_of_ne h, beq_false_of_ne this]
end Go.Proofs.YtiepllpgifnloaaGreat.Px
namespace Go.Proofs.YtiepllpgifnloaaGreat.Px
open Go.Proofs.YtiepllpgifnloaaGreat.Vx
def idxF {α : Type} (p : α → Bool) (l : List α) : Int := match l.findIdx? p with
  | some i => (i : Int)
  | none => -1
theorem idxF_none {α : Type} {p : α → Bool} {l : List α} (h : ∀ j, (hj : j < l.length) → p l[j] = false) : idxF p l = -1 := by
  have : l.findIdx? p = none := by
    rw [List.findIdx?_eq_none_iff]
    intro x hx
    obtain ⟨j, hj, rfl⟩ := List.mem_iff_getElem.1 hx
    exact h j hj
  unfold idxF; rw [this]
theorem idxF_some {α : Type} {p : α → Bool} {l : List α} {i : Nat} {d : α} (hi : i < l.length) (hp : p (l.getD i d) = true) (h : (l.take i).all (fun x => !p x) = true) : idxF p l = i := by
  have : l.findIdx? p = some i := by
    rw [List.findIdx?_eq_some_iff_getElem]
    rw [List.getD_eq_getElem?_getD, List.getElem?_eq_getElem hi] at hp
    refine ⟨hi, hp, fun j hj => ?_⟩
    rw [List.all_eq_true] at h
    have := h l[j] (by rw [List.mem_iff_getElem]; exact ⟨j, by rw [List.length_take]; omega, by rw [List.getElem_take]⟩)
    simpa using this
  unfold idxF; rw [this]
theorem idxF_all {α : Type} {p : α → Bool} {l : List α} (h : l.all (fun x => !p x) = true) : idxF p l = -1 := idxF_none fun j hj => by
  rw [List.all_eq_true] at h
  simpa using h l[j] (List.getElem_mem hj)
theorem idxF_any {α : Type} (p : α → Bool) (l : List α) : decide (idxF p l ≥ 0) = l.any p := by
  unfold idxF
  cases h : l.findIdx? p with
  | none =>
    rw [List.findIdx?_eq_none_iff] at h
    have : l.any p = false := by rw [List.any_eq_false]; intro x hx; rw [h x hx]; simp
    simp [this]
  | some i =>
    rw [List.findIdx?_eq_some_iff_getElem] at h
    have : l.any p = true := by rw [List.any_eq_true]; exact ⟨_, List.getElem_mem h.1, h.2.1⟩
    simp [this]
theorem any_all {α : Type} (p : α → Bool) (l : List α) : (!l.any fun x => !p x) = l.all p := by
  induction l with
  | nil => rfl
  | cons a l ih => simp only [List.any_cons, List.all_cons, Bool.not_or, Bool.not_not, ih]
def frmBase (p : Prg) (f : Frm) : Bool :=
  match atZ p.funcs f.fn with
  | none => false
  | some c => (f.regs.length : Int) == c.regs && decide (0 ≤ f.pc) && decide (f.pc < (c.code.length : Int)) && f.regs.all validVal && validVal f.result && decide (-1 ≤ f.dest)
def frm0 (p : Prg) (f : Frm) : Bool := frmBase p f && f.dest == -1 && f.defers.all (dfrOk p)
def frm1 (p : Prg) (f g : Frm) : Bool := frmBase p f && decide (f.dest < (g.regs.length : Int)) && f.defers.all (dfrOk p)
def cmpI (a b : Int) : Int := if a < b then -1 else if b < a then 1 else 0
def orI (l : List Int) : Int := match l with
  | [] => 0
  | a :: l => if a = 0 then orI l else a
def ordS (a b : Syn) : Int := orI [cmpI a.obj b.obj, cmpI a.off b.off, cmpI a.kind b.kind]
theorem takeL {α : Type} {l : List α} {p : α → Bool} {d : α} {i k : Nat} (hk : k < i) (hi : i ≤ l.length) (h2 : (l.take k).all p = true) : (p (l.getD k d) = false → (l.take i).all p = false) ∧ (p (l.getD k d) = true → (l.take (k + 1)).all p = true) := by
  refine ⟨fun h => ?_, (allL (d := d) (by omega) h2).2⟩
  have e : (l.take i).getD k d = l.getD k d := by
    rw [List.getD_eq_getElem?_getD, List.getD_eq_getElem?_getD, List.getElem?_take, if_pos hk]
  exact all_not (i := k) (d := d) (by rw [List.length_take]; omega) (by rw [e]; exact h)
theorem chan17W (o : Ob) : chan17R o = (o.chan && o.cells_.isEmpty && decide (0 ≤ o.cap) && decide (o.cap ≤ 64) && decide ((o.queue.length : Int) ≤ o.cap) && decide (0 ≤ o.received) && decide (o.received ≤ 1099511627776) && o.sent == IntKind.wrap .i64 (o.received + (o.queue.length : Int)) &&
    !(o.closed && (!o.senders.isEmpty || !o.receivers.isEmpty)) && !(!o.senders.isEmpty && decide ((o.queue.length : Int) < o.cap)) && !(!o.receivers.isEmpty && !o.queue.isEmpty) && (o.receivers.all noVal && wt17 o.senders o.receivers)) := by
  unfold chan17R
  by_cases h1 : (o.queue.length : Int) ≤ o.cap
  · by_cases h2 : o.cap ≤ 64
    · by_cases h3 : 0 ≤ o.received
      · by_cases h4 : o.received ≤ 1099511627776
        · rw [wrap_id (by omega) (by omega)]
          simp only [Bool.and_assoc]
        · simp [h4]
      · simp [h3]
    · simp [h2]
  · simp [h1]
def frmT (c : Fnc) (f : Frm) : Bool := (f.regs.length : Int) == c.regs && decide (0 ≤ f.pc) && decide (f.pc < (c.code.length : Int)) && f.regs.all validVal && validVal f.result && decide (-1 ≤ f.dest)
def fnc (p : Prg) (n : Int) : Fnc := p.funcs.getD n.toNat dFnc
def inF (p : Prg) (n : Int) : Bool := decide (0 ≤ n) && decide (n < (p.funcs.length : Int))
theorem atZ_fn (p : Prg) (n : Int) : atZ p.funcs n = bif inF p n then some (fnc p n) else none := by
  unfold atZ inF fnc
  by_cases h : 0 ≤ n
  · by_cases h2 : n < (p.funcs.length : Int)
    · simp [h, h2, List.getElem?_eq_getElem (show n.toNat < p.funcs.length by omega)]
    · simp [h, h2, List.getElem?_eq_none (show p.funcs.length ≤ n.toNat by omega)]
  · simp [h]
theorem dfr_eq (p : Prg) (d : Dfr) : dfrOk p d = (inF p d.fn && ((d.args.length : Int) == (fnc p d.fn).params && d.args.all validVal)) := by
  unfold dfrOk
  rw [atZ_fn]
  cases inF p d.fn <;> rfl
def destOk (l : List Frm) (i : Nat) (f : Frm) : Bool := bif i == 0 then f.dest == -1 else decide (f.dest < ((l.getD (i - 1) f0_).regs.length : Int))
theorem frm_eq (p : Prg) (l : List Frm) (i : Nat) (f : Frm) : frmOk p l i f = (inF p f.fn && (frmT (fnc p f.fn) f && destOk l i f && f.defers.all (dfrOk p))) := by
  unfold frmOk
  rw [atZ_fn]
  cases inF p f.fn
  · rfl
  · simp only [cond_true, Bool.true_and, frmT, destOk, List.getD_eq_getElem?_getD]
    by_cases h : i = 0
    · simp [h]
    · have : (i == 0) = false := by simp [h]
      simp [h, this]
theorem frm0_eq (p : Prg) (f : Frm) : frm0 p f = (inF p f.fn && (frmT (fnc p f.fn) f && f.dest == -1 && f.defers.all (dfrOk p))) := by
  unfold frm0 frmBase
  rw [atZ_fn]
  cases inF p f.fn <;> simp [frmT]
theorem frm1_eq (p : Prg) (f g : Frm) : frm1 p f g = (inF p f.fn && (frmT (fnc p f.fn) f && decide (f.dest < (g.regs.length : Int)) && f.defers.all (dfrOk p))) := by
  unfold frm1 frmBase
  rw [atZ_fn]
  cases inF p f.fn <;> simp [frmT]
end Go.Proofs.YtiepllpgifnloaaGreat.Px
namespace Go.Proofs.YtiepllpgifnloaaGreat.Px
open Go.Proofs.YtiepllpgifnloaaGreat.Vx
theorem flat_succ {α : Type} {l : List (List α)} {i : Nat} (h : i < l.length) : (l.take (i + 1)).flatten = (l.take i).flatten ++ l.getD i [] := by
  rw [List.take_add_one, List.flatten_append, List.getD_eq_getElem?_getD, List.getElem?_eq_getElem h]
  simp
theorem flat_le {α : Type} (l : List (List α)) (i : Nat) : (l.take i).flatten.length ≤ l.flatten.length := by
  conv => rhs; rw [← List.take_append_drop i l]
  simp only [List.flatten_append, List.length_append]
  omega
theorem wrap_00 : IntKind.wrap .i64 (((0 : Nat) : Int) - ((0 : Nat) : Int)) = 0 := by decide
theorem wrap_nat {n : Nat} (h : n ≤ 140737488355328) : IntKind.wrap .i64 (n : Int) = n := wrap_id (by omega) (by omega)
end Go.Proofs.YtiepllpgifnloaaGreat.Px
namespace Go.Proofs.YtiepllpgifnloaaGreat.Px
open Go.Proofs.YtiepllpgifnloaaGreat.Vx
def ch17W (o : Ob) : Bool := allI (wtP (both o.senders o.receivers) (o.senders ++ o.receivers)) (o.senders ++ o.receivers)
theorem chan17PW (o : Ob) : chan17P o = (o.chan && o.cells_.isEmpty && decide (0 ≤ o.cap) && decide (o.cap ≤ 64) && decide ((o.queue.length : Int) ≤ o.cap) && decide (0 ≤ o.received) && decide (o.received ≤ 1099511627776) && o.sent == IntKind.wrap .i64 (o.received + (o.queue.length : Int)) &&
    !(o.closed && decide ((0 : Int) < ((o.senders.length + o.receivers.length : Nat) : Int))) && !(!o.senders.isEmpty && !((o.queue.length : Int) == o.cap)) && !(!o.receivers.isEmpty && !o.queue.isEmpty) && (o.receivers.all noVal && ch17W o)) := by
  have e : decide (0 < o.senders.length + o.receivers.length) = decide ((0 : Int) < ((o.senders.length + o.receivers.length : Nat) : Int)) := decide_eq_decide.2 (by omega)
  unfold chan17P ch17W
  rw [e]
  by_cases h1 : (o.queue.length : Int) ≤ o.cap
  · by_cases h2 : o.cap ≤ 64
    · by_cases h3 : 0 ≤ o.received
      · by_cases h4 : o.received ≤ 1099511627776
        · rw [wrap_id (by omega) (by omega)]
          simp only [Bool.and_assoc]
        · simp [h4]
      · simp [h3]
    · simp [h2]
  · simp [h1]
theorem both_dec (a b : List Wtr) : both a b = (decide ((a.length : Int) > 0) && decide ((b.length : Int) > 0)) := by
  unfold both
  simp only [emp_dec, gt_iff_lt, dlt]
end Go.Proofs.YtiepllpgifnloaaGreat.Px
namespace Go.Proofs.YtiepllpgifnloaaGreat.Px
open Go.Proofs.YtiepllpgifnloaaGreat.Vx
theorem heap1 (l : List Val) : heapOkP [⟨0, l, false, 0, [], false, 0, 0, [], []⟩] = (decide ((l.length : Int) ≤ 64) && l.all validVal) := by
  have e : decide ((l.length : Int) ≤ 64) = decide (l.length ≤ 64) := decide_eq_decide.2 (by omega)
  rw [e]
  unfold heapOkP allI
  simp [obI, obOkP, prevId, plainOb]
theorem frm_0 (p : Prg) (l : List Frm) (f : Frm) : frmOk p l 0 f = frm0 p f := by
  rw [frm_eq, frm0_eq]; rfl
theorem frm_1 (p : Prg) (l : List Frm) (i : Nat) (h : 0 < i) (f : Frm) : frmOk p l i f = frm1 p f (l.getD (i - 1) f0_) := by
  rw [frm_eq, frm1_eq]
  unfold destOk
  have : (i == 0) = false := by simp; omega
  rw [this]; rfl
theorem ord_lt (a b : Syn) : decide (ordS a b ≥ 0) = !beforeS a b := by
  unfold ordS orI orI orI orI cmpI beforeS
  by_cases h1 : a.obj = b.obj
  · by_cases h2 : a.off = b.off
    · by_cases h3 : a.kind = b.kind
      · simp [h1, h2, h3]
      · rcases Int.lt_or_gt_of_ne h3 with h4 | h4
        · simp [h1, h2, h3, h4]
        · have h5 : ¬ a.kind < b.kind := by omega
          simp [h1, h2, h3, h4, h5]
    · rcases Int.lt_or_gt_of_ne h2 with h4 | h4
      · simp [h1, h2, h4]
      · have h5 : ¬ a.off < b.off := by omega
        simp [h1, h2, h4, h5]
  · rcases Int.lt_or_gt_of_ne h1 with h4 | h4
    · simp [h1, h4]
    · have h5 : ¬ a.obj < b.obj := by omega
      simp [h1, h4, h5]
end Go.Proofs.YtiepllpgifnloaaGreat.Px
namespace Go.Proofs.YtiepllpgifnloaaGreat.Px
open Go.Proofs.YtiepllpgifnloaaGreat.Vx
def validG (p : Prg) (m : Mac) : Bool := !m.goroutines.isEmpty && decide (m.goroutines.length ≤ 8) && (m.goroutines.all (gorOk p) && allI (synOk m.syncs) m.syncs)
end Go.Proofs.YtiepllpgifnloaaGreat.Px
namespace Go.Proofs.YtiepllpgifnloaaGreat.Px
open Go.Proofs.YtiepllpgifnloaaGreat.Vx
theorem wrap_pred1 {n : Nat} (h0 : 0 < n) (hn : n ≤ maxLen) : IntKind.wrap .i64 ((n : Int) - 1) = ((n - 1 : Nat) : Int) := by
  rw [maxLen_eq] at hn
  rw [wrap_id (by omega) (by omega)]
  omega
end Go.Proofs.YtiepllpgifnloaaGreat.Px
namespace Go.Proofs.YtiepllpgifnloaaGreat.Px
open Go.Proofs.YtiepllpgifnloaaGreat.Vx
def sEq (a b : ByteArray) : Bool := a.toList == b.toList
def rl0 : ByteArray := { data := #[100, 105, 45] }
def rl1 : ByteArray := { data := #[100, 45, 45] }
def rl2 : ByteArray := { data := #[100, 114, 45] }
def rl3 : ByteArray := { data := #[100, 114, 114] }
def rl4 : ByteArray := { data := #[45, 45, 106] }
def rl5 : ByteArray := { data := #[114, 45, 106] }
def rl6 : ByteArray := { data := #[100, 103, 45] }
def rl7 : ByteArray := { data := #[100, 114, 110] }
def rl8 : ByteArray := { data := #[100, 108, 45] }
def rl9 : ByteArray := { data := #[100, 49, 110] }
def rl10 : ByteArray := { data := #[100, 110, 45] }
def rl11 : ByteArray := { data := #[68, 102, 97] }
def rl12 : ByteArray := { data := #[45, 102, 97] }
def rl13 : ByteArray := { data := #[82, 45, 45] }
def rl14 : ByteArray := { data := #[114, 114, 45] }
def rl15 : ByteArray := { data := #[114, 45, 45] }
def rl16 : ByteArray := { data := #[68, 114, 68] }
def rl17 : ByteArray := { data := #[100, 115, 98] }
def rl18 : ByteArray := { data := #[114, 98, 99] }
def rolesB (op : Int) : ByteArray :=
  bif op == 1 then rl0 else
  bif op == 2 then rl1 else
  bif op == 3 then rl2 else
  bif op == 9 then rl2 else
  bif op == 10 then rl2 else
  bif op == 15 then rl2 else
  bif op == 22 then rl2 else
  bif op == 23 then rl2 else
  bif op == 33 then rl2 else
  bif op == 35 then rl2 else
  bif op == 4 then rl3 else
  bif op == 5 then rl3 else
  bif op == 6 then rl3 else
  bif op == 7 then rl3 else
  bif op == 8 then rl3 else
  bif op == 11 then rl3 else
  bif op == 12 then rl3 else
  bif op == 13 then rl3 else
  bif op == 14 then rl3 else
  bif op == 20 then rl3 else
  bif op == 37 then rl3 else
  bif op == 38 then rl3 else
  bif op == 16 then rl4 else
  bif op == 17 then rl5 else
  bif op == 45 then rl5 else
  bif op == 18 then rl6 else
  bif op == 19 then rl7 else
  bif op == 21 then rl8 else
  bif op == 24 then rl9 else
  bif op == 25 then rl10 else
  bif op == 26 then rl11 else
  bif op == 28 then rl12 else
  bif op == 31 then rl12 else
  bif op == 30 then rl13 else
  bif op == 34 then rl14 else
  bif op == 36 then rl14 else
  bif op == 43 then rl14 else
  bif op == 47 then rl14 else
  bif op == 27 then rl15 else
  bif op == 29 then rl15 else
  bif op == 32 then rl15 else
  bif op == 39 then rl15 else
  bif op == 40 then rl15 else
  bif op == 41 then rl15 else
  bif op == 42 then rl15 else
  bif op == 44 then rl15 else
  bif op == 46 then rl15 else
  bif op == 49 then rl15 else
  bif op == 52 then rl15 else
  bif op == 48 then rl16 else
  bif op == 50 then rl17 else
  bif op == 51 then rl18 else
  ByteArray.mk #[]
def opndOk (p : Prg) (f : Fnc) (x : Ins) (role v : Int) : Bool :=
  bif role == 100 || role == 114 then decide (0 ≤ v) && decide (v < f.regs)
  else bif role == 68 || role == 82 then decide (-1 ≤ v) && decide (v < f.regs)
  else bif role == 110 then decide (0 ≤ v) && decide (v ≤ 64)
  else bif role == 106 then decide (0 ≤ v) && (decide (v < (f.code.length : Int)) && (f.code.getD v.toNat i0_).op != 51)
  else bif role == 103 then decide (0 ≤ v) && decide (v < (p.globals.length : Int))
  else bif role == 108 then decide (0 ≤ v) && decide (v < (p.layouts.length : Int))
  else bif role == 102 then decide (0 ≤ v) && (decide (v < (p.funcs.length : Int)) && (decide (0 ≤ x.c) && decide (x.c ≤ IntKind.wrap .i64 (f.regs - (p.funcs.getD v.toNat dFnc).params))))
  else bif role == 49 then decide (0 ≤ v) && (decide (v < (p.funcs.length : Int)) && (p.funcs.getD v.toNat dFnc).params == 1)
  else bif role == 97 then decide (0 ≤ v)
  else bif role == 115 then decide (0 ≤ v) && decide (v ≤ 8)
  else bif role == 98 then v == 0 || v == 1
  else bif role == 99 then decide (-1 ≤ v) && (decide (v < f.regs) && (x.b == 0 || decide (0 ≤ v)))
  else bif role == 45 then v == 0 else true
def insOk (p : Prg) (f : Fnc) (x : Ins) : Bool :=
  !(sEq (rolesB x.op) (ByteArray.mk #[])) && decide (0 ≤ x.at_) && opndOk p f x (byteAt (rolesB x.op) 0) x.a && opndOk p f x (byteAt (rolesB x.op) 1) x.b && opndOk p f x (byteAt (rolesB x.op) 2) x.c &&
    (bif x.op == 24 then decide (IntKind.wrap .i64 (x.a + x.c) < f.regs) && decide (x.c < 64) else bif x.op == 25 then decide (x.b < 63) && decide (0 < f.regs) else x.op != 38 || decide (IntKind.wrap .i64 (x.c + 1) < f.regs))
def leftI (l : List Ins) : Nat → Int
  | 0 => 0
  | i + 1 => bif (l.getD i i0_).op == 50 then (l.getD i i0_).b else bif decide (0 < leftI l i) then IntKind.wrap .i64 (leftI l i - 1) else leftI l i
def codeOk (p : Prg) (f : Fnc) (l : List Ins) (i : Nat) (x : Ins) : Bool := (decide (0 < leftI l i) == (x.op == 51)) && insOk p f x
def lastOp (l : List Ins) : Int := (l.getD (l.length - 1) i0_).op
def fncOk (p : Prg) (f : Fnc) : Bool :=
  !(sEq f.name (ByteArray.mk #[])) && decide (0 ≤ f.params) && decide (f.params ≤ f.regs) && decide (f.regs ≤ 64) && !f.code.isEmpty && decide ((f.code.length : Int) ≤ 1000) && (lastOp f.code == 30 || lastOp f.code == 16) && allI (codeOk p f f.code) f.code
def kindOk (k : Int) : Bool := k == 0 || k == 1
def layOk (l : List Int) : Bool := l.all kindOk && decide ((l.length : Int) ≤ 64)
def laysOk (l : List (List Int)) : Bool := l.all layOk && decide ((l.length : Int) ≤ 32)
def notN (s : ByteArray) (t : ByteArray) : Bool := !(sEq t s)
def glbOk (l : List Glb) (i : Nat) (g : Glb) : Bool := !(sEq g.name (ByteArray.mk #[])) && kindOk g.kind && (l.take i).all fun h => notN g.name h.name
def fnsOk (p : Prg) (l : List Fnc) (i : Nat) (f : Fnc) : Bool := fncOk p f && (l.take i).all fun h => notN f.name h.name
def prgOk (p : Prg) : Bool :=
  decide ((p.funcs.length : Int) ≤ 64) && decide ((p.globals.length : Int) ≤ 64) && laysOk p.layouts && decide (0 ≤ p.main) && decide (p.main < (p.funcs.length : Int)) && (p.funcs.getD p.main.toNat dFnc).params == 0 && allI (glbOk p.globals) p.globals && allI (fnsOk p p.funcs) p.funcs
theorem sEq_eq (a b : ByteArray) : (a.toList == b.toList) = sEq a b := rfl
theorem bif_pred {α : Type} {P : α → Prop} {c : Bool} {a b : α} (ha : P a) (hb : P b) : P (bif c then a else b) := by cases c <;> assumption
theorem roles_len (op : Int) : rolesB op = ByteArray.mk #[] ∨ (rolesB op).size = 3 := by
  have key : (fun s : ByteArray => s = ByteArray.mk #[] ∨ s.size = 3) (rolesB op) := by
    unfold rolesB
    repeat' (first | exact .inr rfl | exact .inl rfl | apply bif_pred (P := fun s : ByteArray => s = ByteArray.mk #[] ∨ s.size = 3))
  exact key
end Go.Proofs.YtiepllpgifnloaaGreat.Px
