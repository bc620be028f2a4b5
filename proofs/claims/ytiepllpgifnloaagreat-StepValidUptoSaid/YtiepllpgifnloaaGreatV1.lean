/- A library of the proof: a run of a function on data that is known in part; plain definitions and lemmas. -/
import Derived.WalkKit
import Derived.Below
import Derived.WalkSpells
import Derived.WalkLawsBesides
import Derived.Maps.AppendAt
import Derived.OwnWalk
import Derived.OrdersHeld
import Derived.LoopN
set_option linter.unusedSimpArgs false
set_option linter.unusedVariables false
namespace Go.Proofs.YtiepllpgifnloaaGreat.Vx
inductive T (α : Type) where
  | e
  | n (v : Option α) (l r : T α)
variable {α β : Type}
def T.get : T α → Nat → Option α
  | .e, _ => none
  | .n v l r, k => match Nat.beq k 0 with
    | true => v
    | false => match Nat.beq (Nat.mod k 2) 1 with
      | true => l.get (Nat.div k 2)
      | false => r.get (Nat.sub (Nat.div k 2) 1)
def T.setF (v : Option α) : Nat → T α → Nat → T α
  | 0, t, _ => t
  | f + 1, .e, k => match Nat.beq k 0 with
    | true => .n v .e .e
    | false => match Nat.beq (Nat.mod k 2) 1 with
      | true => .n none (T.setF v f .e (Nat.div k 2)) .e
      | false => .n none .e (T.setF v f .e (Nat.sub (Nat.div k 2) 1))
  | f + 1, .n u l r, k => match Nat.beq k 0 with
    | true => .n v l r
    | false => match Nat.beq (Nat.mod k 2) 1 with
      | true => .n u (T.setF v f l (Nat.div k 2)) r
      | false => .n u l (T.setF v f r (Nat.sub (Nat.div k 2) 1))
def T.put (t : T α) (k : Nat) (v : Option α) : T α := T.setF v (Nat.succ k) t k
abbrev T.set (t : T α) (k : Nat) (v : α) : T α := t.put k (some v)
theorem T.get_e (k : Nat) : (T.e : T α).get k = none := by simp [T.get]
theorem beq_ff {a b : Nat} (h : a ≠ b) : Nat.beq a b = false := by cases hb : Nat.beq a b; rfl; exact absurd (Nat.eq_of_beq_eq_true hb) h
theorem T.get_setF (v : Option α) : ∀ (f : Nat) (t : T α) (k j : Nat), k < f → (T.setF v f t k).get j = if j = k then v else t.get j := by
  intro f
  induction f with
  | zero => intro t k j h; omega
  | succ f ih =>
    intro t k j h
    by_cases hk : k = 0
    · subst hk
      cases t with
      | e =>
        simp only [T.setF, Nat.beq_refl, T.get]
        by_cases hj : j = 0
        · subst hj; simp
        · simp only [beq_ff hj, hj, if_false]; split <;> rfl
      | n u l r =>
        simp only [T.setF, Nat.beq_refl, T.get]
        by_cases hj : j = 0
        · subst hj; simp
        · simp only [beq_ff hj, hj, if_false]
    · have hdm : ∀ n : Nat, Nat.mod n 2 = n % 2 := fun _ => rfl
      have hdd : ∀ n : Nat, Nat.div n 2 = n / 2 := fun _ => rfl
      have hds : ∀ n m : Nat, Nat.sub n m = n - m := fun _ _ => rfl
      have key : ∀ (u : Option α) (l r : T α),
          (match Nat.beq (Nat.mod k 2) 1 with
            | true => T.n u (T.setF v f l (Nat.div k 2)) r
            | false => T.n u l (T.setF v f r (Nat.sub (Nat.div k 2) 1))).get j = if j = k then v else (T.n u l r).get j := by
        intro u l r
        by_cases ho : k % 2 = 1
        · have hb : Nat.beq (Nat.mod k 2) 1 = true := by rw [hdm, ho]; rfl
          simp only [hb]
          by_cases hj : j = 0
          · subst hj; simp only [T.get, Nat.beq_refl]; rw [if_neg (fun e => hk e.symm)]
          · simp only [T.get, beq_ff hj]
            by_cases hjo : j % 2 = 1
            · have hbj : Nat.beq (Nat.mod j 2) 1 = true := by rw [hdm, hjo]; rfl
              simp only [hbj, hdd]
              rw [ih l (k / 2) (j / 2) (by omega)]
              by_cases hjk : j = k
              · subst hjk; simp
              · rw [if_neg hjk, if_neg (by omega)]
            · have hbj : Nat.beq (Nat.mod j 2) 1 = false := by rw [hdm]; exact beq_ff hjo
              simp only [hbj]
              rw [if_neg (fun e => hjo (by rw [e]; exact ho))]
        · have hb : Nat.beq (Nat.mod k 2) 1 = false := by rw [hdm]; exact beq_ff ho
          simp only [hb]
          by_cases hj : j = 0
          · subst hj; simp only [T.get, Nat.beq_refl]; rw [if_neg (fun e => hk e.symm)]
          · simp only [T.get, beq_ff hj]
            by_cases hjo : j % 2 = 1
            · have hbj : Nat.beq (Nat.mod j 2) 1 = true := by rw [hdm, hjo]; rfl
              simp only [hbj]
              rw [if_neg (fun e => ho (by rw [← e]; exact hjo))]
            · have hbj : Nat.beq (Nat.mod j 2) 1 = false := by rw [hdm]; exact beq_ff hjo
              simp only [hbj, hdd, hds]
              rw [ih r (k / 2 - 1) (j / 2 - 1) (by omega)]
              by_cases hjk : j = k
              · subst hjk; simp
              · rw [if_neg hjk, if_neg (by omega)]
      cases t with
      | e =>
        have := key none .e .e
        simp only [T.setF, beq_ff hk]
        rw [this]
        by_cases hjk : j = k
        · simp [hjk]
        · rw [if_neg hjk, if_neg hjk, T.get_e]
          simp only [T.get]
          split
          · rfl
          · split <;> rfl
      | n u l r =>
        have := key u l r
        simp only [T.setF, beq_ff hk]
        exact this
theorem T.get_put (t : T α) (k j : Nat) (v : Option α) : (t.put k v).get j = if j = k then v else t.get j := T.get_setF v _ t k j (Nat.lt_succ_self k)
class Fast (P : Program) where
  inf : T TypeInfo
  inf_ok : ∀ t i, inf.get t = some i → P.info? t = some i
  fns : T Func
  fns_ok : ∀ f x, fns.get f = some x → P.funcs[f]? = some x
  /-- values alone, no data -/
  plain : Bool
def infoF (P : Program) [Fast P] (t : TypeId) : Option TypeInfo := (Fast.inf P).get t
def undF (P : Program) [Fast P] (t : TypeId) : Option TypeDesc := match infoF P t with
  | some i => match i.desc with
    | .named _ u => match infoF P u with
      | some j => some j.desc
      | none => none
    | d => some d
  | none => none
def funcF (P : Program) [Fast P] (f : FuncId) : Option Func := (Fast.fns P).get f
theorem infoF_ok {P : Program} [Fast P] {t : TypeId} {i : TypeInfo} (h : infoF P t = some i) : P.info? t = some i := Fast.inf_ok _ _ h
theorem funcF_ok {P : Program} [Fast P] {f : FuncId} {x : Func} (h : funcF P f = some x) : P.funcs[f]? = some x := Fast.fns_ok _ _ h
theorem undF_ok {P : Program} [Fast P] {t : TypeId} {d : TypeDesc} (h : undF P t = some d) : P.underlying t = some d := by
  unfold undF at h
  unfold Program.underlying
  split at h
  · rename_i i hi
    rw [infoF_ok hi]
    split at h
    · rename_i u hd
      split at h
      · rename_i j hj
        have hj := infoF_ok hj
        cases i
        simp only at hd
        subst hd
        simp only [hj, Option.map_some]
        exact h
      · cases h
    · rename_i hd
      cases i
      simp only at h hd ⊢
      split
      · rename_i e
        cases e
        exact absurd rfl (hd _ _)
      · rename_i e; cases e; exact h
      · rename_i e; cases e
  · cases h
def ofL : List α → Nat → T α → T α
  | [], _, t => t
  | a :: l, k, t => ofL l (Nat.succ k) (t.set k a)
theorem ofL_get : ∀ {l : List α} {k : Nat} {t : T α} {j : Nat} {x : α}, (ofL l k t).get j = some x → (k ≤ j ∧ l[j - k]? = some x) ∨ t.get j = some x
  | [], _, _, _, _, h => .inr h
  | a :: l, k, t, j, x, h => by
    rcases ofL_get (l := l) h with ⟨h1, h2⟩ | h1
    · refine .inl ⟨by omega, ?_⟩
      have : j - k = (j - (k + 1)) + 1 := by omega
      rw [this, List.getElem?_cons_succ]
      exact h2
    · rw [T.get_put] at h1
      split at h1
      · rename_i e; subst e
        refine .inl ⟨Nat.le_refl _, ?_⟩
        rw [Nat.sub_self]; exact h1
      · exact .inr h1
end Go.Proofs.YtiepllpgifnloaaGreat.Vx
namespace Go.Proofs.YtiepllpgifnloaaGreat.Vx
open Go.RowKit
structure Val where
  kind : Int
  n : Int
  off : Int
structure Wtr where
  g : Int
  case_ : Int
  val : Val
structure Pck where
  g : Int
  case_ : Int
structure Ins where
  op : Int
  a : Int
  b : Int
  c : Int
  at_ : Int
structure Ev where
  g : Int
  kind : Int
  obj : Int
  off : Int
  k : Int
  n : Int
  fn : Int
  pc : Int
  stack : Int
structure Ob where
  id : Int
  cells_ : List Val
  chan : Bool
  cap : Int
  queue : List Val
  closed : Bool
  sent : Int
  received : Int
  senders : List Wtr
  receivers : List Wtr
structure Syn where
  obj : Int
  off : Int
  kind : Int
  owner : Int
  readers : List Int
  count_ : Int
structure Dfr where
  fn : Int
  args : List Val
structure Frm where
  fn : Int
  pc : Int
  regs : List Val
  dest : Int
  defers : List Dfr
  leaving : Bool
  result : Val
structure Gor where
  state : Int
  fault : Int
  allocs : Int
  frames : List Frm
structure Trf where
  status : Int
  value : Val
  ok : Bool
  number : Int
  paired : Bool
  partner : Wtr
  partnerNumber : Int
  woken : List Wtr
  failed : List Wtr
structure Fnc where
  name : ByteArray
  params : Int
  regs : Int
  code : List Ins
structure Glb where
  name : ByteArray
  kind : Int
structure Prg where
  funcs : List Fnc
  globals : List Glb
  layouts : List (List Int)
  main : Int
structure Mac where
  objects : List Ob
  syncs : List Syn
  goroutines : List Gor
  output : List Int
structure Vmx where
  m : Mac
  events : List Ev
  gs : List Int
structure Vm where
  p : Prg
  m : Mac
  events : List Ev
  gs : List Int
structure Opn where
  o : Ob
  w : Wtr
structure Smp where
  op : Int
  var : Int
  val : Int
structure Sta where
  threads : List (List Smp)
  script : List Int
inductive SN where
  | val
  | wtr
  | pck
  | ins
  | ev
  | ob
  | syn
  | dfr
  | frm
  | gor
  | trf
  | fnc
  | glb
  | prg
  | mac
  | vmx
  | vm
  | opn
  | smp
  | sta
  deriving DecidableEq
def SN.ty : SN → Type
  | .val => Val
  | .wtr => Wtr
  | .pck => Pck
  | .ins => Ins
  | .ev => Ev
  | .ob => Ob
  | .syn => Syn
  | .dfr => Dfr
  | .frm => Frm
  | .gor => Gor
  | .trf => Trf
  | .fnc => Fnc
  | .glb => Glb
  | .prg => Prg
  | .mac => Mac
  | .vmx => Vmx
  | .vm => Vm
  | .opn => Opn
  | .smp => Smp
  | .sta => Sta
inductive RT where
  | int (k : IntKind)
  | bool
  | str
  | list (t : RT)
  | st (n : SN)
def RT.ty : RT → Type
  | .int _ => Int
  | .bool => Bool
  | .str => ByteArray
  | .list t => List t.ty
  | .st n => n.ty
inductive Leaf where
  | int (k : IntKind) (n : Int)
  | bool (b : Bool)
  | str (s : ByteArray)
  | list (t : RT) (l : List t.ty)
def SN.dflt : (n : SN) → n.ty
  | .val => (⟨0, 0, 0⟩ : Val)
  | .wtr => (⟨0, 0, ⟨0, 0, 0⟩⟩ : Wtr)
  | .pck => (⟨0, 0⟩ : Pck)
  | .ins => (⟨0, 0, 0, 0, 0⟩ : Ins)
  | .ev => (⟨0, 0, 0, 0, 0, 0, 0, 0, 0⟩ : Ev)
  | .ob => (⟨0, [], false, 0, [], false, 0, 0, [], []⟩ : Ob)
  | .syn => (⟨0, 0, 0, 0, [], 0⟩ : Syn)
  | .dfr => (⟨0, []⟩ : Dfr)
  | .frm => (⟨0, 0, [], 0, [], false, ⟨0, 0, 0⟩⟩ : Frm)
  | .gor => (⟨0, 0, 0, []⟩ : Gor)
  | .trf => (⟨0, ⟨0, 0, 0⟩, false, 0, false, ⟨0, 0, ⟨0, 0, 0⟩⟩, 0, [], []⟩ : Trf)
  | .fnc => (⟨ByteArray.empty, 0, 0, []⟩ : Fnc)
  | .glb => (⟨ByteArray.empty, 0⟩ : Glb)
  | .prg => (⟨[], [], [], 0⟩ : Prg)
  | .mac => (⟨[], [], [], []⟩ : Mac)
  | .vmx => (⟨⟨[], [], [], []⟩, [], []⟩ : Vmx)
  | .vm => (⟨⟨[], [], [], 0⟩, ⟨[], [], [], []⟩, [], []⟩ : Vm)
  | .opn => (⟨⟨0, [], false, 0, [], false, 0, 0, [], []⟩, ⟨0, 0, ⟨0, 0, 0⟩⟩⟩ : Opn)
  | .smp => (⟨0, 0, 0⟩ : Smp)
  | .sta => (⟨[], []⟩ : Sta)
def SN.size : SN → Nat
  | .val => 3
  | .wtr => 5
  | .pck => 2
  | .ins => 5
  | .ev => 9
  | .ob => 10
  | .syn => 6
  | .dfr => 2
  | .frm => 9
  | .gor => 4
  | .trf => 15
  | .fnc => 4
  | .glb => 2
  | .prg => 4
  | .mac => 4
  | .vmx => 6
  | .vm => 10
  | .opn => 15
  | .smp => 3
  | .sta => 2
def SN.leaves : (n : SN) → n.ty → List Leaf
  | .val, (x : Val) => [.int .i64 x.kind, .int .i64 x.n, .int .i64 x.off]
  | .wtr, (x : Wtr) => [.int .i64 x.g, .int .i64 x.case_, .int .i64 x.val.kind, .int .i64 x.val.n, .int .i64 x.val.off]
  | .pck, (x : Pck) => [.int .i64 x.g, .int .i64 x.case_]
  | .ins, (x : Ins) => [.int .i64 x.op, .int .i64 x.a, .int .i64 x.b, .int .i64 x.c, .int .i64 x.at_]
  | .ev, (x : Ev) => [.int .i64 x.g, .int .i64 x.kind, .int .i64 x.obj, .int .i64 x.off, .int .i64 x.k, .int .i64 x.n, .int .i64 x.fn, .int .i64 x.pc, .int .i64 x.stack]
  | .ob, (x : Ob) => [.int .i64 x.id, .list (.st .val) x.cells_, .bool x.chan, .int .i64 x.cap, .list (.st .val) x.queue, .bool x.closed, .int .i64 x.sent, .int .i64 x.received, .list (.st .wtr) x.senders, .list (.st .wtr) x.receivers]
  | .syn, (x : Syn) => [.int .i64 x.obj, .int .i64 x.off, .int .i64 x.kind, .int .i64 x.owner, .list (.int .i64) x.readers, .int .i64 x.count_]
  | .dfr, (x : Dfr) => [.int .i64 x.fn, .list (.st .val) x.args]
  | .frm, (x : Frm) => [.int .i64 x.fn, .int .i64 x.pc, .list (.st .val) x.regs, .int .i64 x.dest, .list (.st .dfr) x.defers, .bool x.leaving, .int .i64 x.result.kind, .int .i64 x.result.n, .int .i64 x.result.off]
  | .gor, (x : Gor) => [.int .i64 x.state, .int .i64 x.fault, .int .i64 x.allocs, .list (.st .frm) x.frames]
  | .trf, (x : Trf) => [.int .i64 x.status, .int .i64 x.value.kind, .int .i64 x.value.n, .int .i64 x.value.off, .bool x.ok, .int .i64 x.number, .bool x.paired, .int .i64 x.partner.g, .int .i64 x.partner.case_, .int .i64 x.partner.val.kind, .int .i64 x.partner.val.n, .int .i64 x.partner.val.off, .int .i64 x.partnerNumber, .list (.st .wtr) x.woken, .list (.st .wtr) x.failed]
  | .fnc, (x : Fnc) => [.str x.name, .int .i64 x.params, .int .i64 x.regs, .list (.st .ins) x.code]
  | .glb, (x : Glb) => [.str x.name, .int .i64 x.kind]
  | .prg, (x : Prg) => [.list (.st .fnc) x.funcs, .list (.st .glb) x.globals, .list (.list (.int .i64)) x.layouts, .int .i64 x.main]
  | .mac, (x : Mac) => [.list (.st .ob) x.objects, .list (.st .syn) x.syncs, .list (.st .gor) x.goroutines, .list (.int .i64) x.output]
  | .vmx, (x : Vmx) => [.list (.st .ob) x.m.objects, .list (.st .syn) x.m.syncs, .list (.st .gor) x.m.goroutines, .list (.int .i64) x.m.output, .list (.st .ev) x.events, .list (.int .i64) x.gs]
  | .vm, (x : Vm) => [.list (.st .fnc) x.p.funcs, .list (.st .glb) x.p.globals, .list (.list (.int .i64)) x.p.layouts, .int .i64 x.p.main, .list (.st .ob) x.m.objects, .list (.st .syn) x.m.syncs, .list (.st .gor) x.m.goroutines, .list (.int .i64) x.m.output, .list (.st .ev) x.events, .list (.int .i64) x.gs]
  | .opn, (x : Opn) => [.int .i64 x.o.id, .list (.st .val) x.o.cells_, .bool x.o.chan, .int .i64 x.o.cap, .list (.st .val) x.o.queue, .bool x.o.closed, .int .i64 x.o.sent, .int .i64 x.o.received, .list (.st .wtr) x.o.senders, .list (.st .wtr) x.o.receivers, .int .i64 x.w.g, .int .i64 x.w.case_, .int .i64 x.w.val.kind, .int .i64 x.w.val.n, .int .i64 x.w.val.off]
  | .smp, (x : Smp) => [.int .u8 x.op, .int .u8 x.var, .int .u8 x.val]
  | .sta, (x : Sta) => [.list (.list (.st .smp)) x.threads, .list (.int .u8) x.script]
theorem SN.leaves_len : ∀ (n : SN) (x : n.ty), (n.leaves x).length = n.size
  | .val, _ => rfl
  | .wtr, _ => rfl
  | .pck, _ => rfl
  | .ins, _ => rfl
  | .ev, _ => rfl
  | .ob, _ => rfl
  | .syn, _ => rfl
  | .dfr, _ => rfl
  | .frm, _ => rfl
  | .gor, _ => rfl
  | .trf, _ => rfl
  | .fnc, _ => rfl
  | .glb, _ => rfl
  | .prg, _ => rfl
  | .mac, _ => rfl
  | .vmx, _ => rfl
  | .vm, _ => rfl
  | .opn, _ => rfl
  | .smp, _ => rfl
  | .sta, _ => rfl
def RT.same : (t u : RT) → Option (PLift (t = u))
  | .int k, .int j => if h : k = j then some ⟨by rw [h]⟩ else none
  | .bool, .bool => some ⟨rfl⟩
  | .str, .str => some ⟨rfl⟩
  | .list t, .list u => match RT.same t u with
    | some h => some ⟨by rw [h.down]⟩
    | none => none
  | .st n, .st m => if h : n = m then some ⟨by rw [h]⟩ else none
  | _, _ => none
def castL {t u : RT} (h : PLift (t = u)) (l : List t.ty) : List u.ty := h.down ▸ l
def Leaf.asInt (k : IntKind) : Leaf → Option Int
  | .int j n => if j = k then some n else none
  | _ => none
def Leaf.asBool : Leaf → Option Bool
  | .bool b => some b
  | _ => none
def Leaf.asStr : Leaf → Option ByteArray
  | .str b => some b
  | _ => none
def Leaf.asList (t : RT) : Leaf → Option (List t.ty)
  | .list u l => match RT.same u t with
    | some h => some (castL h l)
    | none => none
  | _ => none
theorem Leaf.asInt_eq {k : IntKind} {l : Leaf} {n : Int} (h : l.asInt k = some n) : l = .int k n := by
  unfold Leaf.asInt at h
  split at h
  · split at h
    · rename_i e; obtain rfl := Option.some.inj h; rw [e]
    · cases h
  · cases h
theorem Leaf.asBool_eq {l : Leaf} {b : Bool} (h : l.asBool = some b) : l = .bool b := by
  unfold Leaf.asBool at h
  split at h
  · obtain rfl := Option.some.inj h; rfl
  · cases h
theorem Leaf.asStr_eq {l : Leaf} {b : ByteArray} (h : l.asStr = some b) : l = .str b := by
  unfold Leaf.asStr at h
  split at h
  · obtain rfl := Option.some.inj h; rfl
  · cases h
theorem Leaf.asList_eq {t : RT} {l : Leaf} {b : List t.ty} (h : l.asList t = some b) : l = .list t b := by
  unfold Leaf.asList at h
  split at h
  · split at h
    · rename_i e _
      obtain rfl := Option.some.inj h
      obtain ⟨e⟩ := e
      subst e
      rfl
    · cases h
  · cases h
def buildVal : List Leaf → Option Val
  | [c0, c1, c2] => match c0.asInt .i64 with | some v0 => (match c1.asInt .i64 with | some v1 => (match c2.asInt .i64 with | some v2 => (some ⟨v0, v1, v2⟩) | none => none) | none => none) | none => none
  | _ => none
theorem buildVal_ok {ls : List Leaf} {x : Val} (h : buildVal ls = some x) : SN.leaves .val x = ls := by
  unfold buildVal at h
  split at h
  · rename_i c0 c1 c2
    cases e0 : c0.asInt .i64 with
    | none => rw [e0] at h; cases h
    | some v0 =>
    rw [e0] at h
    simp only at h
    cases e1 : c1.asInt .i64 with
    | none => rw [e1] at h; cases h
    | some v1 =>
    rw [e1] at h
    simp only at h
    cases e2 : c2.asInt .i64 with
    | none => rw [e2] at h; cases h
    | some v2 =>
    rw [e2] at h
    simp only at h
    obtain rfl := Option.some.inj h
    rw [Leaf.asInt_eq e0]
    rw [Leaf.asInt_eq e1]
    rw [Leaf.asInt_eq e2]
    rfl
  · cases h
def buildWtr : List Leaf → Option Wtr
  | [c0, c1, c2, c3, c4] => match c0.asInt .i64 with | some v0 => (match c1.asInt .i64 with | some v1 => (match c2.asInt .i64 with | some v2 => (match c3.asInt .i64 with | some v3 => (match c4.asInt .i64 with | some v4 => (some ⟨v0, v1, ⟨v2, v3, v4⟩⟩) | none => none) | none => none) | none => none) | none => none) | none => none
  | _ => none
theorem buildWtr_ok {ls : List Leaf} {x : Wtr} (h : buildWtr ls = some x) : SN.leaves .wtr x = ls := by
  unfold buildWtr at h
  split at h
  · rename_i c0 c1 c2 c3 c4
    cases e0 : c0.asInt .i64 with
    | none => rw [e0] at h; cases h
    | some v0 =>
    rw [e0] at h
    simp only at h
    cases e1 : c1.asInt .i64 with
    | none => rw [e1] at h; cases h
    | some v1 =>
    rw [e1] at h
    simp only at h
    cases e2 : c2.asInt .i64 with
    | none => rw [e2] at h; cases h
    | some v2 =>
    rw [e2] at h
    simp only at h
    cases e3 : c3.asInt .i64 with
    | none => rw [e3] at h; cases h
    | some v3 =>
    rw [e3] at h
    simp only at h
    cases e4 : c4.asInt .i64 with
    | none => rw [e4] at h; cases h
    | some v4 =>
    rw [e4] at h
    simp only at h
    obtain rfl := Option.some.inj h
    rw [Leaf.asInt_eq e0]
    rw [Leaf.asInt_eq e1]
    rw [Leaf.asInt_eq e2]
    rw [Leaf.asInt_eq e3]
    rw [Leaf.asInt_eq e4]
    rfl
  · cases h
def buildPck : List Leaf → Option Pck
  | [c0, c1] => match c0.asInt .i64 with | some v0 => (match c1.asInt .i64 with | some v1 => (some ⟨v0, v1⟩) | none => none) | none => none
  | _ => none
theorem buildPck_ok {ls : List Leaf} {x : Pck} (h : buildPck ls = some x) : SN.leaves .pck x = ls := by
  unfold buildPck at h
  split at h
  · rename_i c0 c1
    cases e0 : c0.asInt .i64 with
    | none => rw [e0] at h; cases h
    | some v0 =>
    rw [e0] at h
    simp only at h
    cases e1 : c1.asInt .i64 with
    | none => rw [e1] at h; cases h
    | some v1 =>
    rw [e1] at h
    simp only at h
    obtain rfl := Option.some.inj h
    rw [Leaf.asInt_eq e0]
    rw [Leaf.asInt_eq e1]
    rfl
  · cases h
def buildIns : List Leaf → Option Ins
  | [c0, c1, c2, c3, c4] => match c0.asInt .i64 with | some v0 => (match c1.asInt .i64 with | some v1 => (match c2.asInt .i64 with | some v2 => (match c3.asInt .i64 with | some v3 => (match c4.asInt .i64 with | some v4 => (some ⟨v0, v1, v2, v3, v4⟩) | none => none) | none => none) | none => none) | none => none) | none => none
  | _ => none
theorem buildIns_ok {ls : List Leaf} {x : Ins} (h : buildIns ls = some x) : SN.leaves .ins x = ls := by
  unfold buildIns at h
  split at h
  · rename_i c0 c1 c2 c3 c4
    cases e0 : c0.asInt .i64 with
    | none => rw [e0] at h; cases h
    | some v0 =>
    rw [e0] at h
    simp only at h
    cases e1 : c1.asInt .i64 with
    | none => rw [e1] at h; cases h
    | some v1 =>
    rw [e1] at h
    simp only at h
    cases e2 : c2.asInt .i64 with
    | none => rw [e2] at h; cases h
    | some v2 =>
    rw [e2] at h
    simp only at h
    cases e3 : c3.asInt .i64 with
    | none => rw [e3] at h; cases h
    | some v3 =>
    rw [e3] at h
    simp only at h
    cases e4 : c4.asInt .i64 with
    | none => rw [e4] at h; cases h
    | some v4 =>
    rw [e4] at h
    simp only at h
    obtain rfl := Option.some.inj h
    rw [Leaf.asInt_eq e0]
    rw [Leaf.asInt_eq e1]
    rw [Leaf.asInt_eq e2]
    rw [Leaf.asInt_eq e3]
    rw [Leaf.asInt_eq e4]
    rfl
  · cases h
def buildEv : List Leaf → Option Ev
  | [c0, c1, c2, c3, c4, c5, c6, c7, c8] => match c0.asInt .i64 with | some v0 => (match c1.asInt .i64 with | some v1 => (match c2.asInt .i64 with | some v2 => (match c3.asInt .i64 with | some v3 => (match c4.asInt .i64 with | some v4 => (match c5.asInt .i64 with | some v5 => (match c6.asInt .i64 with | some v6 => (match c7.asInt .i64 with | some v7 => (match c8.asInt .i64 with | some v8 => (some ⟨v0, v1, v2, v3, v4, v5, v6, v7, v8⟩) | none => none) | none => none) | none => none) | none => none) | none => none) | none => none) | none => none) | none => none) | none => none
  | _ => none
theorem buildEv_ok {ls : List Leaf} {x : Ev} (h : buildEv ls = some x) : SN.leaves .ev x = ls := by
  unfold buildEv at h
  split at h
  · rename_i c0 c1 c2 c3 c4 c5 c6 c7 c8
    cases e0 : c0.asInt .i64 with
    | none => rw [e0] at h; cases h
    | some v0 =>
    rw [e0] at h
    simp only at h
    cases e1 : c1.asInt .i64 with
    | none => rw [e1] at h; cases h
    | some v1 =>
    rw [e1] at h
    simp only at h
    cases e2 : c2.asInt .i64 with
    | none => rw [e2] at h; cases h
    | some v2 =>
    rw [e2] at h
    simp only at h
    cases e3 : c3.asInt .i64 with
    | none => rw [e3] at h; cases h
    | some v3 =>
    rw [e3] at h
    simp only at h
    cases e4 : c4.asInt .i64 with
    | none => rw [e4] at h; cases h
    | some v4 =>
    rw [e4] at h
    simp only at h
    cases e5 : c5.asInt .i64 with
    | none => rw [e5] at h; cases h
    | some v5 =>
    rw [e5] at h
    simp only at h
    cases e6 : c6.asInt .i64 with
    | none => rw [e6] at h; cases h
    | some v6 =>
    rw [e6] at h
    simp only at h
    cases e7 : c7.asInt .i64 with
    | none => rw [e7] at h; cases h
    | some v7 =>
    rw [e7] at h
    simp only at h
    cases e8 : c8.asInt .i64 with
    | none => rw [e8] at h; cases h
    | some v8 =>
    rw [e8] at h
    simp only at h
    obtain rfl := Option.some.inj h
    rw [Leaf.asInt_eq e0]
    rw [Leaf.asInt_eq e1]
    rw [Leaf.asInt_eq e2]
    rw [Leaf.asInt_eq e3]
    rw [Leaf.asInt_eq e4]
    rw [Leaf.asInt_eq e5]
    rw [Leaf.asInt_eq e6]
    rw [Leaf.asInt_eq e7]
    rw [Leaf.asInt_eq e8]
    rfl
  · cases h
def buildOb : List Leaf → Option Ob
  | [c0, c1, c2, c3, c4, c5, c6, c7, c8, c9] => match c0.asInt .i64 with | some v0 => (match c1.asList (.st .val) with | some v1 => (match c2.asBool with | some v2 => (match c3.asInt .i64 with | some v3 => (match c4.asList (.st .val) with | some v4 => (match c5.asBool with | some v5 => (match c6.asInt .i64 with | some v6 => (match c7.asInt .i64 with | some v7 => (match c8.asList (.st .wtr) with | some v8 => (match c9.asList (.st .wtr) with | some v9 => (some ⟨v0, v1, v2, v3, v4, v5, v6, v7, v8, v9⟩) | none => none) | none => none) | none => none) | none => none) | none => none) | none => none) | none => none) | none => none) | none => none) | none => none
  | _ => none
theorem buildOb_ok {ls : List Leaf} {x : Ob} (h : buildOb ls = some x) : SN.leaves .ob x = ls := by
  unfold buildOb at h
  split at h
  · rename_i c0 c1 c2 c3 c4 c5 c6 c7 c8 c9
    cases e0 : c0.asInt .i64 with
    | none => rw [e0] at h; cases h
    | some v0 =>
    rw [e0] at h
    simp only at h
    cases e1 : c1.asList (.st .val) with
    | none => rw [e1] at h; cases h
    | some v1 =>
    rw [e1] at h
    simp only at h
    cases e2 : c2.asBool with
    | none => rw [e2] at h; cases h
    | some v2 =>
    rw [e2] at h
    simp only at h
    cases e3 : c3.asInt .i64 with
    | none => rw [e3] at h; cases h
    | some v3 =>
    rw [e3] at h
    simp only at h
    cases e4 : c4.asList (.st .val) with
    | none => rw [e4] at h; cases h
    | some v4 =>
    rw [e4] at h
    simp only at h
    cases e5 : c5.asBool with
    | none => rw [e5] at h; cases h
    | some v5 =>
    rw [e5] at h
    simp only at h
    cases e6 : c6.asInt .i64 with
    | none => rw [e6] at h; cases h
    | some v6 =>
    rw [e6] at h
    simp only at h
    cases e7 : c7.asInt .i64 with
    | none => rw [e7] at h; cases h
    | some v7 =>
    rw [e7] at h
    simp only at h
    cases e8 : c8.asList (.st .wtr) with
    | none => rw [e8] at h; cases h
    | some v8 =>
    rw [e8] at h
    simp only at h
    cases e9 : c9.asList (.st .wtr) with
    | none => rw [e9] at h; cases h
    | some v9 =>
    rw [e9] at h
    simp only at h
    obtain rfl := Option.some.inj h
    rw [Leaf.asInt_eq e0]
    rw [Leaf.asList_eq e1]
    rw [Leaf.asBool_eq e2]
    rw [Leaf.asInt_eq e3]
    rw [Leaf.asList_eq e4]
    rw [Leaf.asBool_eq e5]
    rw [Leaf.asInt_eq e6]
    rw [Leaf.asInt_eq e7]
    rw [Leaf.asList_eq e8]
    rw [Leaf.asList_eq e9]
    rfl
  · cases h
def buildSyn : List Leaf → Option Syn
  | [c0, c1, c2, c3, c4, c5] => match c0.asInt .i64 with | some v0 => (match c1.asInt .i64 with | some v1 => (match c2.asInt .i64 with | some v2 => (match c3.asInt .i64 with | some v3 => (match c4.asList (.int .i64) with | some v4 => (match c5.asInt .i64 with | some v5 => (some ⟨v0, v1, v2, v3, v4, v5⟩) | none => none) | none => none) | none => none) | none => none) | none => none) | none => none
  | _ => none
theorem buildSyn_ok {ls : List Leaf} {x : Syn} (h : buildSyn ls = some x) : SN.leaves .syn x = ls := by
  unfold buildSyn at h
  split at h
  · rename_i c0 c1 c2 c3 c4 c5
    cases e0 : c0.asInt .i64 with
    | none => rw [e0] at h; cases h
    | some v0 =>
    rw [e0] at h
    simp only at h
    cases e1 : c1.asInt .i64 with
    | none => rw [e1] at h; cases h
    | some v1 =>
    rw [e1] at h
    simp only at h
    cases e2 : c2.asInt .i64 with
    | none => rw [e2] at h; cases h
    | some v2 =>
    rw [e2] at h
    simp only at h
    cases e3 : c3.asInt .i64 with
    | none => rw [e3] at h; cases h
    | some v3 =>
    rw [e3] at h
    simp only at h
    cases e4 : c4.asList (.int .i64) with
    | none => rw [e4] at h; cases h
    | some v4 =>
    rw [e4] at h
    simp only at h
    cases e5 : c5.asInt .i64 with
    | none => rw [e5] at h; cases h
    | some v5 =>
    rw [e5] at h
    simp only at h
    obtain rfl := Option.some.inj h
    rw [Leaf.asInt_eq e0]
    rw [Leaf.asInt_eq e1]
    rw [Leaf.asInt_eq e2]
    rw [Leaf.asInt_eq e3]
    rw [Leaf.asList_eq e4]
    rw [Leaf.asInt_eq e5]
    rfl
  · cases h
def buildDfr : List Leaf → Option Dfr
  | [c0, c1] => match c0.asInt .i64 with | some v0 => (match c1.asList (.st .val) with | some v1 => (some ⟨v0, v1⟩) | none => none) | none => none
  | _ => none
theorem buildDfr_ok {ls : List Leaf} {x : Dfr} (h : buildDfr ls = some x) : SN.leaves .dfr x = ls := by
  unfold buildDfr at h
  split at h
  · rename_i c0 c1
    cases e0 : c0.asInt .i64 with
    | none => rw [e0] at h; cases h
    | some v0 =>
    rw [e0] at h
    simp only at h
    cases e1 : c1.asList (.st .val) with
    | none => rw [e1] at h; cases h
    | some v1 =>
    rw [e1] at h
    simp only at h
    obtain rfl := Option.some.inj h
    rw [Leaf.asInt_eq e0]
    rw [Leaf.asList_eq e1]
    rfl
  · cases h
def buildFrm : List Leaf → Option Frm
  | [c0, c1, c2, c3, c4, c5, c6, c7, c8] => match c0.asInt .i64 with | some v0 => (match c1.asInt .i64 with | some v1 => (match c2.asList (.st .val) with | some v2 => (match c3.asInt .i64 with | some v3 => (match c4.asList (.st .dfr) with | some v4 => (match c5.asBool with | some v5 => (match c6.asInt .i64 with | some v6 => (match c7.asInt .i64 with | some v7 => (match c8.asInt .i64 with | some v8 => (some ⟨v0, v1, v2, v3, v4, v5, ⟨v6, v7, v8⟩⟩) | none => none) | none => none) | none => none) | none => none) | none => none) | none => none) | none => none) | none => none) | none => none
  | _ => none
theorem buildFrm_ok {ls : List Leaf} {x : Frm} (h : buildFrm ls = some x) : SN.leaves .frm x = ls := by
  unfold buildFrm at h
  split at h
  · rename_i c0 c1 c2 c3 c4 c5 c6 c7 c8
    cases e0 : c0.asInt .i64 with
    | none => rw [e0] at h; cases h
    | some v0 =>
    rw [e0] at h
    simp only at h
    cases e1 : c1.asInt .i64 with
    | none => rw [e1] at h; cases h
    | some v1 =>
    rw [e1] at h
    simp only at h
    cases e2 : c2.asList (.st .val) with
    | none => rw [e2] at h; cases h
    | some v2 =>
    rw [e2] at h
    simp only at h
    cases e3 : c3.asInt .i64 with
    | none => rw [e3] at h; cases h
    | some v3 =>
    rw [e3] at h
    simp only at h
    cases e4 : c4.asList (.st .dfr) with
    | none => rw [e4] at h; cases h
    | some v4 =>
    rw [e4] at h
    simp only at h
    cases e5 : c5.asBool with
    | none => rw [e5] at h; cases h
    | some v5 =>
    rw [e5] at h
    simp only at h
    cases e6 : c6.asInt .i64 with
    | none => rw [e6] at h; cases h
    | some v6 =>
    rw [e6] at h
    simp only at h
    cases e7 : c7.asInt .i64 with
    | none => rw [e7] at h; cases h
    | some v7 =>
    rw [e7] at h
    simp only at h
    cases e8 : c8.asInt .i64 with
    | none => rw [e8] at h; cases h
    | some v8 =>
    rw [e8] at h
    simp only at h
    obtain rfl := Option.some.inj h
    rw [Leaf.asInt_eq e0]
    rw [Leaf.asInt_eq e1]
    rw [Leaf.asList_eq e2]
    rw [Leaf.asInt_eq e3]
    rw [Leaf.asList_eq e4]
    rw [Leaf.asBool_eq e5]
    rw [Leaf.asInt_eq e6]
    rw [Leaf.asInt_eq e7]
    rw [Leaf.asInt_eq e8]
    rfl
  · cases h
def buildGor : List Leaf → Option Gor
  | [c0, c1, c2, c3] => match c0.asInt .i64 with | some v0 => (match c1.asInt .i64 with | some v1 => (match c2.asInt .i64 with | some v2 => (match c3.asList (.st .frm) with | some v3 => (some ⟨v0, v1, v2, v3⟩) | none => none) | none => none) | none => none) | none => none
  | _ => none
theorem buildGor_ok {ls : List Leaf} {x : Gor} (h : buildGor ls = some x) : SN.leaves .gor x = ls := by
  unfold buildGor at h
  split at h
  · rename_i c0 c1 c2 c3
    cases e0 : c0.asInt .i64 with
    | none => rw [e0] at h; cases h
    | some v0 =>
    rw [e0] at h
    simp only at h
    cases e1 : c1.asInt .i64 with
    | none => rw [e1] at h; cases h
    | some v1 =>
    rw [e1] at h
    simp only at h
    cases e2 : c2.asInt .i64 with
    | none => rw [e2] at h; cases h
    | some v2 =>
    rw [e2] at h
    simp only at h
    cases e3 : c3.asList (.st .frm) with
    | none => rw [e3] at h; cases h
    | some v3 =>
    rw [e3] at h
    simp only at h
    obtain rfl := Option.some.inj h
    rw [Leaf.asInt_eq e0]
    rw [Leaf.asInt_eq e1]
    rw [Leaf.asInt_eq e2]
    rw [Leaf.asList_eq e3]
    rfl
  · cases h
def buildTrf : List Leaf → Option Trf
  | [c0, c1, c2, c3, c4, c5, c6, c7, c8, c9, c10, c11, c12, c13, c14] => match c0.asInt .i64 with | some v0 => (match c1.asInt .i64 with | some v1 => (match c2.asInt .i64 with | some v2 => (match c3.asInt .i64 with | some v3 => (match c4.asBool with | some v4 => (match c5.asInt .i64 with | some v5 => (match c6.asBool with | some v6 => (match c7.asInt .i64 with | some v7 => (match c8.asInt .i64 with | some v8 => (match c9.asInt .i64 with | some v9 => (match c10.asInt .i64 with | some v10 => (match c11.asInt .i64 with | some v11 => (match c12.asInt .i64 with | some v12 => (match c13.asList (.st .wtr) with | some v13 => (match c14.asList (.st .wtr) with | some v14 => (some ⟨v0, ⟨v1, v2, v3⟩, v4, v5, v6, ⟨v7, v8, ⟨v9, v10, v11⟩⟩, v12, v13, v14⟩) | none => none) | none => none) | none => none) | none => none) | none => none) | none => none) | none => none) | none => none) | none => none) | none => none) | none => none) | none => none) | none => none) | none => none) | none => none
  | _ => none
theorem buildTrf_ok {ls : List Leaf} {x : Trf} (h : buildTrf ls = some x) : SN.leaves .trf x = ls := by
  unfold buildTrf at h
  split at h
  · rename_i c0 c1 c2 c3 c4 c5 c6 c7 c8 c9 c10 c11 c12 c13 c14
    cases e0 : c0.asInt .i64 with
    | none => rw [e0] at h; cases h
    | some v0 =>
    rw [e0] at h
    simp only at h
    cases e1 : c1.asInt .i64 with
    | none => rw [e1] at h; cases h
    | some v1 =>
    rw [e1] at h
    simp only at h
    cases e2 : c2.asInt .i64 with
    | none => rw [e2] at h; cases h
    | some v2 =>
    rw [e2] at h
    simp only at h
    cases e3 : c3.asInt .i64 with
    | none => rw [e3] at h; cases h
    | some v3 =>
    rw [e3] at h
    simp only at h
    cases e4 : c4.asBool with
    | none => rw [e4] at h; cases h
    | some v4 =>
    rw [e4] at h
    simp only at h
    cases e5 : c5.asInt .i64 with
    | none => rw [e5] at h; cases h
    | some v5 =>
    rw [e5] at h
    simp only at h
    cases e6 : c6.asBool with
    | none => rw [e6] at h; cases h
    | some v6 =>
    rw [e6] at h
    simp only at h
    cases e7 : c7.asInt .i64 with
    | none => rw [e7] at h; cases h
    | some v7 =>
    rw [e7] at h
    simp only at h
    cases e8 : c8.asInt .i64 with
    | none => rw [e8] at h; cases h
    | some v8 =>
    rw [e8] at h
    simp only at h
    cases e9 : c9.asInt .i64 with
    | none => rw [e9] at h; cases h
    | some v9 =>
    rw [e9] at h
    simp only at h
    cases e10 : c10.asInt .i64 with
    | none => rw [e10] at h; cases h
    | some v10 =>
    rw [e10] at h
    simp only at h
    cases e11 : c11.asInt .i64 with
    | none => rw [e11] at h; cases h
    | some v11 =>
    rw [e11] at h
    simp only at h
    cases e12 : c12.asInt .i64 with
    | none => rw [e12] at h; cases h
    | some v12 =>
    rw [e12] at h
    simp only at h
    cases e13 : c13.asList (.st .wtr) with
    | none => rw [e13] at h; cases h
    | some v13 =>
    rw [e13] at h
    simp only at h
    cases e14 : c14.asList (.st .wtr) with
    | none => rw [e14] at h; cases h
    | some v14 =>
    rw [e14] at h
    simp only at h
    obtain rfl := Option.some.inj h
    rw [Leaf.asInt_eq e0]
    rw [Leaf.asInt_eq e1]
    rw [Leaf.asInt_eq e2]
    rw [Leaf.asInt_eq e3]
    rw [Leaf.asBool_eq e4]
    rw [Leaf.asInt_eq e5]
    rw [Leaf.asBool_eq e6]
    rw [Leaf.asInt_eq e7]
    rw [Leaf.asInt_eq e8]
    rw [Leaf.asInt_eq e9]
    rw [Leaf.asInt_eq e10]
    rw [Leaf.asInt_eq e11]
    rw [Leaf.asInt_eq e12]
    rw [Leaf.asList_eq e13]
    rw [Leaf.asList_eq e14]
    rfl
  · cases h
def buildFnc : List Leaf → Option Fnc
  | [c0, c1, c2, c3] => match c0.asStr with | some v0 => (match c1.asInt .i64 with | some v1 => (match c2.asInt .i64 with | some v2 => (match c3.asList (.st .ins) with | some v3 => (some ⟨v0, v1, v2, v3⟩) | none => none) | none => none) | none => none) | none => none
  | _ => none
theorem buildFnc_ok {ls : List Leaf} {x : Fnc} (h : buildFnc ls = some x) : SN.leaves .fnc x = ls := by
  unfold buildFnc at h
  split at h
  · rename_i c0 c1 c2 c3
    cases e0 : c0.asStr with
    | none => rw [e0] at h; cases h
    | some v0 =>
    rw [e0] at h
    simp only at h
    cases e1 : c1.asInt .i64 with
    | none => rw [e1] at h; cases h
    | some v1 =>
    rw [e1] at h
    simp only at h
    cases e2 : c2.asInt .i64 with
    | none => rw [e2] at h; cases h
    | some v2 =>
    rw [e2] at h
    simp only at h
    cases e3 : c3.asList (.st .ins) with
    | none => rw [e3] at h; cases h
    | some v3 =>
    rw [e3] at h
    simp only at h
    obtain rfl := Option.some.inj h
    rw [Leaf.asStr_eq e0]
    rw [Leaf.asInt_eq e1]
    rw [Leaf.asInt_eq e2]
    rw [Leaf.asList_eq e3]
    rfl
  · cases h
def buildGlb : List Leaf → Option Glb
  | [c0, c1] => match c0.asStr with | some v0 => (match c1.asInt .i64 with | some v1 => (some ⟨v0, v1⟩) | none => none) | none => none
  | _ => none
theorem buildGlb_ok {ls : List Leaf} {x : Glb} (h : buildGlb ls = some x) : SN.leaves .glb x = ls := by
  unfold buildGlb at h
  split at h
  · rename_i c0 c1
    cases e0 : c0.asStr with
    | none => rw [e0] at h; cases h
    | some v0 =>
    rw [e0] at h
    simp only at h
    cases e1 : c1.asInt .i64 with
    | none => rw [e1] at h; cases h
    | some v1 =>
    rw [e1] at h
    simp only at h
    obtain rfl := Option.some.inj h
    rw [Leaf.asStr_eq e0]
    rw [Leaf.asInt_eq e1]
    rfl
  · cases h
def buildPrg : List Leaf → Option Prg
  | [c0, c1, c2, c3] => match c0.asList (.st .fnc) with | some v0 => (match c1.asList (.st .glb) with | some v1 => (match c2.asList (.list (.int .i64)) with | some v2 => (match c3.asInt .i64 with | some v3 => (some ⟨v0, v1, v2, v3⟩) | none => none) | none => none) | none => none) | none => none
  | _ => none
theorem buildPrg_ok {ls : List Leaf} {x : Prg} (h : buildPrg ls = some x) : SN.leaves .prg x = ls := by
  unfold buildPrg at h
  split at h
  · rename_i c0 c1 c2 c3
    cases e0 : c0.asList (.st .fnc) with
    | none => rw [e0] at h; cases h
    | some v0 =>
    rw [e0] at h
    simp only at h
    cases e1 : c1.asList (.st .glb) with
    | none => rw [e1] at h; cases h
    | some v1 =>
    rw [e1] at h
    simp only at h
    cases e2 : c2.asList (.list (.int .i64)) with
    | none => rw [e2] at h; cases h
    | some v2 =>
    rw [e2] at h
    simp only at h
    cases e3 : c3.asInt .i64 with
    | none => rw [e3] at h; cases h
    | some v3 =>
    rw [e3] at h
    simp only at h
    obtain rfl := Option.some.inj h
    rw [Leaf.asList_eq e0]
    rw [Leaf.asList_eq e1]
    rw [Leaf.asList_eq e2]
    rw [Leaf.asInt_eq e3]
    rfl
  · cases h
def buildMac : List Leaf → Option Mac
  | [c0, c1, c2, c3] => match c0.asList (.st .ob) with | some v0 => (match c1.asList (.st .syn) with | some v1 => (match c2.asList (.st .gor) with | some v2 => (match c3.asList (.int .i64) with | some v3 => (some ⟨v0, v1, v2, v3⟩) | none => none) | none => none) | none => none) | none => none
  | _ => none
theorem buildMac_ok {ls : List Leaf} {x : Mac} (h : buildMac ls = some x) : SN.leaves .mac x = ls := by
  unfold buildMac at h
  split at h
  · rename_i c0 c1 c2 c3
    cases e0 : c0.asList (.st .ob) with
    | none => rw [e0] at h; cases h
    | some v0 =>
    rw [e0] at h
    simp only at h
    cases e1 : c1.asList (.st .syn) with
    | none => rw [e1] at h; cases h
    | some v1 =>
    rw [e1] at h
    simp only at h
    cases e2 : c2.asList (.st .gor) with
    | none => rw [e2] at h; cases h
    | some v2 =>
    rw [e2] at h
    simp only at h
    cases e3 : c3.asList (.int .i64) with
    | none => rw [e3] at h; cases h
    | some v3 =>
    rw [e3] at h
    simp only at h
    obtain rfl := Option.some.inj h
    rw [Leaf.asList_eq e0]
    rw [Leaf.asList_eq e1]
    rw [Leaf.asList_eq e2]
    rw [Leaf.asList_eq e3]
    rfl
  · cases h
def buildVmx : List Leaf → Option Vmx
  | [c0, c1, c2, c3, c4, c5] => match c0.asList (.st .ob) with | some v0 => (match c1.asList (.st .syn) with | some v1 => (match c2.asList (.st .gor) with | some v2 => (match c3.asList (.int .i64) with | some v3 => (match c4.asList (.st .ev) with | some v4 => (match c5.asList (.int .i64) with | some v5 => (some ⟨⟨v0, v1, v2, v3⟩, v4, v5⟩) | none => none) | none => none) | none => none) | none => none) | none => none) | none => none
  | _ => none
theorem buildVmx_ok {ls : List Leaf} {x : Vmx} (h : buildVmx ls = some x) : SN.leaves .vmx x = ls := by
  unfold buildVmx at h
  split at h
  · rename_i c0 c1 c2 c3 c4 c5
    cases e0 : c0.asList (.st .ob) with
    | none => rw [e0] at h; cases h
    | some v0 =>
    rw [e0] at h
    simp only at h
    cases e1 : c1.asList (.st .syn) with
    | none => rw [e1] at h; cases h
    | some v1 =>
    rw [e1] at h
    simp only at h
    cases e2 : c2.asList (.st .gor) with
    | none => rw [e2] at h; cases h
    | some v2 =>
    rw [e2] at h
    simp only at h
    cases e3 : c3.asList (.int .i64) with
    | none => rw [e3] at h; cases h
    | some v3 =>
    rw [e3] at h
    simp only at h
    cases e4 : c4.asList (.st .ev) with
    | none => rw [e4] at h; cases h
    | some v4 =>
    rw [e4] at h
    simp only at h
    cases e5 : c5.asList (.int .i64) with
    | none => rw [e5] at h; cases h
    | some v5 =>
    rw [e5] at h
    simp only at h
    obtain rfl := Option.some.inj h
    rw [Leaf.asList_eq e0]
    rw [Leaf.asList_eq e1]
    rw [Leaf.asList_eq e2]
    rw [Leaf.asList_eq e3]
    rw [Leaf.asList_eq e4]
    rw [Leaf.asList_eq e5]
    rfl
  · cases h
def buildVm : List Leaf → Option Vm
  | [c0, c1, c2, c3, c4, c5, c6, c7, c8, c9] => match c0.asList (.st .fnc) with | some v0 => (match c1.asList (.st .glb) with | some v1 => (match c2.asList (.list (.int .i64)) with | some v2 => (match c3.asInt .i64 with | some v3 => (match c4.asList (.st .ob) with | some v4 => (match c5.asList (.st .syn) with | some v5 => (match c6.asList (.st .gor) with | some v6 => (match c7.asList (.int .i64) with | some v7 => (match c8.asList (.st .ev) with | some v8 => (match c9.asList (.int .i64) with | some v9 => (some ⟨⟨v0, v1, v2, v3⟩, ⟨v4, v5, v6, v7⟩, v8, v9⟩) | none => none) | none => none) | none => none) | none => none) | none => none) | none => none) | none => none) | none => none) | none => none) | none => none
  | _ => none
theorem buildVm_ok {ls : List Leaf} {x : Vm} (h : buildVm ls = some x) : SN.leaves .vm x = ls := by
  unfold buildVm at h
  split at h
  · rename_i c0 c1 c2 c3 c4 c5 c6 c7 c8 c9
    cases e0 : c0.asList (.st .fnc) with
    | none => rw [e0] at h; cases h
    | some v0 =>
    rw [e0] at h
    simp only at h
    cases e1 : c1.asList (.st .glb) with
    | none => rw [e1] at h; cases h
    | some v1 =>
    rw [e1] at h
    simp only at h
    cases e2 : c2.asList (.list (.int .i64)) with
    | none => rw [e2] at h; cases h
    | some v2 =>
    rw [e2] at h
    simp only at h
    cases e3 : c3.asInt .i64 with
    | none => rw [e3] at h; cases h
    | some v3 =>
    rw [e3] at h
    simp only at h
    cases e4 : c4.asList (.st .ob) with
    | none => rw [e4] at h; cases h
    | some v4 =>
    rw [e4] at h
    simp only at h
    cases e5 : c5.asList (.st .syn) with
    | none => rw [e5] at h; cases h
    | some v5 =>
    rw [e5] at h
    simp only at h
    cases e6 : c6.asList (.st .gor) with
    | none => rw [e6] at h; cases h
    | some v6 =>
    rw [e6] at h
    simp only at h
    cases e7 : c7.asList (.int .i64) with
    | none => rw [e7] at h; cases h
    | some v7 =>
    rw [e7] at h
    simp only at h
    cases e8 : c8.asList (.st .ev) with
    | none => rw [e8] at h; cases h
    | some v8 =>
    rw [e8] at h
    simp only at h
    cases e9 : c9.asList (.int .i64) with
    | none => rw [e9] at h; cases h
    | some v9 =>
    rw [e9] at h
    simp only at h
    obtain rfl := Option.some.inj h
    rw [Leaf.asList_eq e0]
    rw [Leaf.asList_eq e1]
    rw [Leaf.asList_eq e2]
    rw [Leaf.asInt_eq e3]
    rw [Leaf.asList_eq e4]
    rw [Leaf.asList_eq e5]
    rw [Leaf.asList_eq e6]
    rw [Leaf.asList_eq e7]
    rw [Leaf.asList_eq e8]
    rw [Leaf.asList_eq e9]
    rfl
  · cases h
def buildOpn : List Leaf → Option Opn
  | [c0, c1, c2, c3, c4, c5, c6, c7, c8, c9, c10, c11, c12, c13, c14] => match c0.asInt .i64 with | some v0 => (match c1.asList (.st .val) with | some v1 => (match c2.asBool with | some v2 => (match c3.asInt .i64 with | some v3 => (match c4.asList (.st .val) with | some v4 => (match c5.asBool with | some v5 => (match c6.asInt .i64 with | some v6 => (match c7.asInt .i64 with | some v7 => (match c8.asList (.st .wtr) with | some v8 => (match c9.asList (.st .wtr) with | some v9 => (match c10.asInt .i64 with | some v10 => (match c11.asInt .i64 with | some v11 => (match c12.asInt .i64 with | some v12 => (match c13.asInt .i64 with | some v13 => (match c14.asInt .i64 with | some v14 => (some ⟨⟨v0, v1, v2, v3, v4, v5, v6, v7, v8, v9⟩, ⟨v10, v11, ⟨v12, v13, v14⟩⟩⟩) | none => none) | none => none) | none => none) | none => none) | none => none) | none => none) | none => none) | none => none) | none => none) | none => none) | none => none) | none => none) | none => none) | none => none) | none => none
  | _ => none
theorem buildOpn_ok {ls : List Leaf} {x : Opn} (h : buildOpn ls = some x) : SN.leaves .opn x = ls := by
  unfold buildOpn at h
  split at h
  · rename_i c0 c1 c2 c3 c4 c5 c6 c7 c8 c9 c10 c11 c12 c13 c14
    cases e0 : c0.asInt .i64 with
    | none => rw [e0] at h; cases h
    | some v0 =>
    rw [e0] at h
    simp only at h
    cases e1 : c1.asList (.st .val) with
    | none => rw [e1] at h; cases h
    | some v1 =>
    rw [e1] at h
    simp only at h
    cases e2 : c2.asBool with
    | none => rw [e2] at h; cases h
    | some v2 =>
    rw [e2] at h
    simp only at h
    cases e3 : c3.asInt .i64 with
    | none => rw [e3] at h; cases h
    | some v3 =>
    rw [e3] at h
    simp only at h
    cases e4 : c4.asList (.st .val) with
    | none => rw [e4] at h; cases h
    | some v4 =>
    rw [e4] at h
    simp only at h
    cases e5 : c5.asBool with
    | none => rw [e5] at h; cases h
    | some v5 =>
    rw [e5] at h
    simp only at h
    cases e6 : c6.asInt .i64 with
    | none => rw [e6] at h; cases h
    | some v6 =>
    rw [e6] at h
    simp only at h
    cases e7 : c7.asInt .i64 with
    | none => rw [e7] at h; cases h
    | some v7 =>
    rw [e7] at h
    simp only at h
    cases e8 : c8.asList (.st .wtr) with
    | none => rw [e8] at h; cases h
    | some v8 =>
    rw [e8] at h
    simp only at h
    cases e9 : c9.asList (.st .wtr) with
    | none => rw [e9] at h; cases h
    | some v9 =>
    rw [e9] at h
    simp only at h
    cases e10 : c10.asInt .i64 with
    | none => rw [e10] at h; cases h
    | some v10 =>
    rw [e10] at h
    simp only at h
    cases e11 : c11.asInt .i64 with
    | none => rw [e11] at h; cases h
    | some v11 =>
    rw [e11] at h
    simp only at h
    cases e12 : c12.asInt .i64 with
    | none => rw [e12] at h; cases h
    | some v12 =>
    rw [e12] at h
    simp only at h
    cases e13 : c13.asInt .i64 with
    | none => rw [e13] at h; cases h
    | some v13 =>
    rw [e13] at h
    simp only at h
    cases e14 : c14.asInt .i64 with
    | none => rw [e14] at h; cases h
    | some v14 =>
    rw [e14] at h
    simp only at h
    obtain rfl := Option.some.inj h
    rw [Leaf.asInt_eq e0]
    rw [Leaf.asList_eq e1]
    rw [Leaf.asBool_eq e2]
    rw [Leaf.asInt_eq e3]
    rw [Leaf.asList_eq e4]
    rw [Leaf.asBool_eq e5]
    rw [Leaf.asInt_eq e6]
    rw [Leaf.asInt_eq e7]
    rw [Leaf.asList_eq e8]
    rw [Leaf.asList_eq e9]
    rw [Leaf.asInt_eq e10]
    rw [Leaf.asInt_eq e11]
    rw [Leaf.asInt_eq e12]
    rw [Leaf.asInt_eq e13]
    rw [Leaf.asInt_eq e14]
    rfl
  · cases h
def buildSmp : List Leaf → Option Smp
  | [c0, c1, c2] => match c0.asInt .u8 with | some v0 => (match c1.asInt .u8 with | some v1 => (match c2.asInt .u8 with | some v2 => (some ⟨v0, v1, v2⟩) | none => none) | none => none) | none => none
  | _ => none
theorem buildSmp_ok {ls : List Leaf} {x : Smp} (h : buildSmp ls = some x) : SN.leaves .smp x = ls := by
  unfold buildSmp at h
  split at h
  · rename_i c0 c1 c2
    cases e0 : c0.asInt .u8 with
    | none => rw [e0] at h; cases h
    | some v0 =>
    rw [e0] at h
    simp only at h
    cases e1 : c1.asInt .u8 with
    | none => rw [e1] at h; cases h
    | some v1 =>
    rw [e1] at h
    simp only at h
    cases e2 : c2.asInt .u8 with
    | none => rw [e2] at h; cases h
    | some v2 =>
    rw [e2] at h
    simp only at h
    obtain rfl := Option.some.inj h
    rw [Leaf.asInt_eq e0]
    rw [Leaf.asInt_eq e1]
    rw [Leaf.asInt_eq e2]
    rfl
  · cases h
def buildSta : List Leaf → Option Sta
  | [c0, c1] => match c0.asList (.list (.st .smp)) with | some v0 => (match c1.asList (.int .u8) with | some v1 => (some ⟨v0, v1⟩) | none => none) | none => none
  | _ => none
theorem buildSta_ok {ls : List Leaf} {x : Sta} (h : buildSta ls = some x) : SN.leaves .sta x = ls := by
  unfold buildSta at h
  split at h
  · rename_i c0 c1
    cases e0 : c0.asList (.list (.st .smp)) with
    | none => rw [e0] at h; cases h
    | some v0 =>
    rw [e0] at h
    simp only at h
    cases e1 : c1.asList (.int .u8) with
    | none => rw [e1] at h; cases h
    | some v1 =>
    rw [e1] at h
    simp only at h
    obtain rfl := Option.some.inj h
    rw [Leaf.asList_eq e0]
    rw [Leaf.asList_eq e1]
    rfl
  · cases h
def SN.build : (n : SN) → List Leaf → Option n.ty
  | .val, l => buildVal l
  | .wtr, l => buildWtr l
  | .pck, l => buildPck l
  | .ins, l => buildIns l
  | .ev, l => buildEv l
  | .ob, l => buildOb l
  | .syn, l => buildSyn l
  | .dfr, l => buildDfr l
  | .frm, l => buildFrm l
  | .gor, l => buildGor l
  | .trf, l => buildTrf l
  | .fnc, l => buildFnc l
  | .glb, l => buildGlb l
  | .prg, l => buildPrg l
  | .mac, l => buildMac l
  | .vmx, l => buildVmx l
  | .vm, l => buildVm l
  | .opn, l => buildOpn l
  | .smp, l => buildSmp l
  | .sta, l => buildSta l
theorem SN.build_ok : ∀ {n : SN} {ls : List Leaf} {x : n.ty}, n.build ls = some x → n.leaves x = ls
  | .val, _, _, h => buildVal_ok h
  | .wtr, _, _, h => buildWtr_ok h
  | .pck, _, _, h => buildPck_ok h
  | .ins, _, _, h => buildIns_ok h
  | .ev, _, _, h => buildEv_ok h
  | .ob, _, _, h => buildOb_ok h
  | .syn, _, _, h => buildSyn_ok h
  | .dfr, _, _, h => buildDfr_ok h
  | .frm, _, _, h => buildFrm_ok h
  | .gor, _, _, h => buildGor_ok h
  | .trf, _, _, h => buildTrf_ok h
  | .fnc, _, _, h => buildFnc_ok h
  | .glb, _, _, h => buildGlb_ok h
  | .prg, _, _, h => buildPrg_ok h
  | .mac, _, _, h => buildMac_ok h
  | .vmx, _, _, h => buildVmx_ok h
  | .vm, _, _, h => buildVm_ok h
  | .opn, _, _, h => buildOpn_ok h
  | .smp, _, _, h => buildSmp_ok h
  | .sta, _, _, h => buildSta_ok h
def RT.dflt : (t : RT) → t.ty
  | .int _ => (0 : Int)
  | .bool => false
  | .str => ByteArray.empty
  | .list _ => []
  | .st n => n.dflt
def RT.size : RT → Nat
  | .st n => n.size
  | _ => 1
def RT.leaves : (t : RT) → t.ty → List Leaf
  | .int k, n => [.int k n]
  | .bool, b => [.bool b]
  | .str, s => [.str s]
  | .list t, l => [.list t l]
  | .st n, x => n.leaves x
theorem RT.leaves_len : ∀ (t : RT) (x : t.ty), (t.leaves x).length = t.size
  | .int _, _ | .bool, _ | .str, _ | .list _, _ => rfl
  | .st n, x => n.leaves_len x
def RT.build : (t : RT) → List Leaf → Option t.ty
  | .int k, ls => match ls with | [l] => l.asInt k | _ => none
  | .bool, ls => match ls with | [l] => l.asBool | _ => none
  | .str, ls => match ls with | [l] => l.asStr | _ => none
  | .list t, ls => match ls with | [l] => l.asList t | _ => none
  | .st n, ls => n.build ls
theorem RT.build_ok : ∀ {t : RT} {ls : List Leaf} {x : t.ty}, t.build ls = some x → t.leaves x = ls
  | .int k, [l], x, h => by have e := Leaf.asInt_eq (show l.asInt k = some x from h); rw [e]; rfl
  | .bool, [l], x, h => by have e := Leaf.asBool_eq (show l.asBool = some x from h); rw [e]; rfl
  | .str, [l], x, h => by have e := Leaf.asStr_eq (show l.asStr = some x from h); rw [e]; rfl
  | .list t, [l], x, h => by have e := Leaf.asList_eq (show l.asList t = some x from h); rw [e]; rfl
  | .st n, ls, x, h => SN.build_ok h
  | .int _, [], _, h | .bool, [], _, h | .str, [], _, h | .list _, [], _, h => nomatch h
  | .int _, _ :: _ :: _, _, h | .bool, _ :: _ :: _, _, h | .str, _ :: _ :: _, _, h | .list _, _ :: _ :: _, _, h => nomatch h
end Go.Proofs.YtiepllpgifnloaaGreat.Vx
namespace Go.Proofs.YtiepllpgifnloaaGreat.Vx
open Go.RowKit
inductive LfR (w : World) (F : Nat → Prop) : Leaf → Value → Prop
  | int (k : IntKind) (n : Int) : LfR w F (.int k n) (.int k n)
  | bool (b : Bool) : LfR w F (.bool b) (.bool b)
  | str (s : ByteArray) : LfR w F (.str s) (.string s)
  | list (t : RT) (l : List t.ty) (A : Option Addr) (c : Nat) (vf : Nat → Nat → Value) (h1 : l.length ≤ c) (h2 : l.length ≤ maxLen) (h3 : l ≠ [] → ∃ b o, A = some ⟨b, o, none⟩ ∧ F b ∧ b < w.heap.size)
      (hc : ∀ b o, A = some ⟨b, o, none⟩ → ∀ (i : Nat) (x : t.ty), l[i]? = some x → ∀ (j : Nat) (lf : Leaf), (t.leaves x)[j]? = some lf → w.cell? ⟨b, o + i * t.size + j, none⟩ = some (vf i j))
      (hr : ∀ (i : Nat) (x : t.ty), l[i]? = some x → ∀ (j : Nat) (lf : Leaf), (t.leaves x)[j]? = some lf → LfR w F lf (vf i j)) : LfR w F (.list t l) (.slice A l.length c)
def Rd (w : World) (F : Nat → Prop) (t : RT) (x : t.ty) (vs : List Value) : Prop := vs.length = t.size ∧ ∀ (j : Nat) (lf : Leaf), (t.leaves x)[j]? = some lf → ∃ v, vs[j]? = some v ∧ LfR w F lf v
theorem cell_same {w w' : World} {b : Nat} (h : w'.heap[b]? = w.heap[b]?) (p : Addr) (hp : p.block = b) : w'.cell? p = w.cell? p := World.cell?_of_block (by rw [hp]; exact h)
theorem lt_same {w w' : World} {b : Nat} (h : w'.heap[b]? = w.heap[b]?) (hb : b < w.heap.size) : b < w'.heap.size := by
  rw [Array.getElem?_eq_getElem hb] at h
  exact (Array.getElem?_eq_some_iff.1 h).1
theorem LfR.keep {w w' : World} {F F' : Nat → Prop} {lf : Leaf} {v : Value} (h : LfR w F lf v) (hF : ∀ b, F b → F' b) (hk : ∀ b, F b → b < w.heap.size → w'.heap[b]? = w.heap[b]?) : LfR w' F' lf v := by
  induction h with
  | int k n => exact .int k n
  | bool b => exact .bool b
  | str s => exact .str s
  | list t l A c vf h1 h2 h3 hc hr ih =>
    refine .list t l A c vf h1 h2 (fun hl => ?_) (fun b o hA i x hx j lf hj => ?_) ih
    · obtain ⟨b, o, hA, hb, hlt⟩ := h3 hl
      exact ⟨b, o, hA, hF b hb, lt_same (hk b hb hlt) hlt⟩
    · obtain ⟨b', o', hA', hb, hlt⟩ := h3 (by rintro rfl; simp at hx)
      rw [hA'] at hA
      simp only [Option.some.injEq, Addr.mk.injEq, and_true] at hA
      obtain ⟨rfl, rfl⟩ := hA
      exact (cell_same (hk b' hb hlt) _ rfl).trans (hc b' o' hA' i x hx j lf hj)
theorem Rd.keep {w w' : World} {F F' : Nat → Prop} {t : RT} {x : t.ty} {vs : List Value} (h : Rd w F t x vs) (hF : ∀ b, F b → F' b) (hk : ∀ b, F b → b < w.heap.size → w'.heap[b]? = w.heap[b]?) : Rd w' F' t x vs :=
  ⟨h.1, fun j lf hj => let ⟨v, h1, h2⟩ := h.2 j lf hj; ⟨v, h1, h2.keep hF hk⟩⟩
abbrev Hdr := Option Addr × Nat × Nat
abbrev Hdr.val (h : Hdr) : Value := .slice h.1 h.2.1 h.2.2
theorem LfR.slice {w : World} {F : Nat → Prop} {t : RT} {l : List t.ty} {v : Value} (h : LfR w F (.list t l) v) : ∃ A c, v = .slice A l.length c ∧ l.length ≤ c ∧ l.length ≤ maxLen := by
  cases h with
  | list _ _ A c vf h1 h2 h3 hc hr => exact ⟨A, c, rfl, h1, h2⟩
theorem LfR.elem {w : World} {F : Nat → Prop} {t : RT} {l : List t.ty} {A : Option Addr} {m c : Nat} (h : LfR w F (.list t l) (.slice A m c)) {i : Nat} {x : t.ty} (hx : l[i]? = some x) :
    ∃ b o, A = some ⟨b, o, none⟩ ∧ F b ∧ b < w.heap.size ∧ ∀ (j : Nat) (lf : Leaf), (t.leaves x)[j]? = some lf → ∃ v, w.cell? ⟨b, o + i * t.size + j, none⟩ = some v ∧ LfR w F lf v := by
  cases h with
  | list _ _ _ _ vf h1 h2 h3 hc hr =>
    obtain ⟨b, o, hA, hb, hlt⟩ := h3 (by rintro rfl; simp at hx)
    exact ⟨b, o, hA, hb, hlt, fun j lf hj => ⟨_, hc b o hA i x hx j lf hj, hr i x hx j lf hj⟩⟩
theorem LfR.lenEq {w : World} {F : Nat → Prop} {t : RT} {l : List t.ty} {A : Option Addr} {m c : Nat} (h : LfR w F (.list t l) (.slice A m c)) : m = l.length := by
  cases h with
  | list _ _ _ _ vf h1 h2 h3 hc hr => rfl
end Go.Proofs.YtiepllpgifnloaaGreat.Vx
namespace Go.Proofs.YtiepllpgifnloaaGreat.Vx
open Go.RowKit
def Blk (w : World) (g : Nat) (t : TypeId) (cs : Array Value) : Prop := ∃ fz : Nat × Nat, w.heap[g]? = some (.cells cs t fz) ∧ (fz.1 = fz.2 ∨ cs.size ≤ fz.1)
theorem Blk.lt {w : World} {g : Nat} {t : TypeId} {cs : Array Value} (h : Blk w g t cs) : g < w.heap.size := by
  obtain ⟨fz, h, _⟩ := h
  rcases Nat.lt_or_ge g w.heap.size with hlt | hge
  · exact hlt
  · rw [Array.getElem?_eq_none hge] at h; cases h
theorem Blk.cell {w : World} {g : Nat} {t : TypeId} {cs : Array Value} (h : Blk w g t cs) (i : Nat) : w.cell? ⟨g, i, none⟩ = cs[i]? := by
  obtain ⟨fz, h, _⟩ := h
  exact cell_of_row w g i cs t fz h
theorem Blk.same {w w' : World} {x : Nat} {t : TypeId} {cs : Array Value} (h : Blk w x t cs) (e : w'.heap[x]? = w.heap[x]?) : Blk w' x t cs := by
  obtain ⟨fz, h, hf⟩ := h
  exact ⟨fz, e.trans h, hf⟩
abbrev Path := List (Nat × Nat)
def RT.elemAt (t : RT) (j : Nat) : Option RT := match (t.leaves t.dflt)[j]? with
  | some (.list u _) => some u
  | _ => none
def shT : RT → Nat → Bool
  | .st .syn, 4 => true
  | .st .dfr, 1 => true
  | _, _ => false
def owT : RT → Path → Bool
  | _, [] => true
  | t, (_, j) :: p => match shT t j, t.elemAt j with
    | false, some u => owT u p
    | _, _ => false
inductive Ow where
  | all
  | none
  | fn (f : Path → Bool)
  /-- all of it is only read, wherever it lies -/
  | ro
def Ow.f : Ow → RT → Path → Bool
  | .all, t => owT t
  | .none, _ => fun _ => false
  | .ro, _ => fun _ => false
  | .fn f, _ => f
inductive LfO (w : World) (S : Nat → Prop) : Leaf → (Path → Bool) → (Nat → Prop) → Value → Prop
  | int (k : IntKind) (n : Int) (ow : Path → Bool) (F : Nat → Prop) : LfO w S (.int k n) ow F (.int k n)
  | bool (b : Bool) (ow : Path → Bool) (F : Nat → Prop) : LfO w S (.bool b) ow F (.bool b)
  | str (s : ByteArray) (ow : Path → Bool) (F : Nat → Prop) : LfO w S (.str s) ow F (.string s)
  | shr (t : RT) (l : List t.ty) (ow : Path → Bool) (F : Nat → Prop) (v : Value) (h0 : ow [] = false) (h : LfR w S (.list t l) v) : LfO w S (.list t l) ow F v
  | nil (t : RT) (ow : Path → Bool) (F : Nat → Prop) (A : Option Addr) (h0 : ow [] = true) : LfO w S (.list t []) ow F (.slice A 0 0)
  | list (t : RT) (l : List t.ty) (ow : Path → Bool) (F : Nat → Prop) (c b : Nat) (T : TypeId) (cs : Array Value) (G : Nat → Nat → Nat → Prop) (h0 : ow [] = true) (h1 : l.length ≤ c) (h2 : l.length ≤ maxLen) (hb : F b) (hk : Blk w b T cs) (hs : cs.size = c * t.size)
      (hG : ∀ i j y, G i j y → F y ∧ y ≠ b) (hd : ∀ i j i' j' y, G i j y → G i' j' y → i = i' ∧ j = j')
      (hr : ∀ (i : Nat) (x : t.ty), l[i]? = some x → ∀ (j : Nat) (lf : Leaf), (t.leaves x)[j]? = some lf → LfO w S lf (fun q => ow ((i, j) :: q)) (G i j) (cs.getD (i * t.size + j) undef)) : LfO w S (.list t l) ow F (.slice (some ⟨b, 0, none⟩) l.length c)
theorem LfO.wide {w : World} {S F F' : Nat → Prop} {ow : Path → Bool} {lf : Leaf} {v : Value} (h : LfO w S lf ow F v) (hF : ∀ b, F b → F' b) : LfO w S lf ow F' v := by
  cases h with
  | int k n => exact .int k n _ _
  | bool b => exact .bool b _ _
  | str s => exact .str s _ _
  | shr t l _ _ _ h0 h => exact .shr t l _ _ _ h0 h
  | nil t _ _ A h0 => exact .nil t _ _ A h0
  | list t l _ _ c b T cs G h0 h1 h2 hb hk hs hG hd hr => exact .list t l _ F' c b T cs G h0 h1 h2 (hF b hb) hk hs (fun i j y hy => ⟨hF y (hG i j y hy).1, (hG i j y hy).2⟩) hd hr
theorem LfO.keep {w w' : World} {S S' F : Nat → Prop} {ow : Path → Bool} {lf : Leaf} {v : Value} (h : LfO w S lf ow F v) (hk : ∀ b, F b → b < w.heap.size → w'.heap[b]? = w.heap[b]?) (hS : ∀ b, S b → S' b) (hsk : ∀ b, S b → b < w.heap.size → w'.heap[b]? = w.heap[b]?) : LfO w' S' lf ow F v := by
  induction h with
  | int k n => exact .int k n _ _
  | bool b => exact .bool b _ _
  | str s => exact .str s _ _
  | shr t l _ _ _ h0 h => exact .shr t l _ _ _ h0 (h.keep hS hsk)
  | nil t _ _ A h0 => exact .nil t _ _ A h0
  | list t l ow F c b T cs G h0 h1 h2 hb hbk hs hG hd hr ih => exact .list t l ow F c b T cs G h0 h1 h2 hb (hbk.same (hk b hb hbk.lt)) hs hG hd fun i x hx j lf hj => ih i x hx j lf hj fun y hy => hk y (hG i j y hy).1
theorem LfO.cut {w : World} {S F : Nat → Prop} {ow : Path → Bool} {lf : Leaf} {v : Value} (h : LfO w S lf ow F v) : LfO w S lf ow (fun y => F y ∧ y < w.heap.size) v := by
  induction h with
  | int k n => exact .int k n _ _
  | bool b => exact .bool b _ _
  | str s => exact .str s _ _
  | shr t l _ _ _ h0 h => exact .shr t l _ _ _ h0 h
  | nil t _ _ A h0 => exact .nil t _ _ A h0
  | list t l ow F c b T cs G h0 h1 h2 hb hk hs hG hd hr ih => exact .list t l _ _ c b T cs (fun i j y => G i j y ∧ y < w.heap.size) h0 h1 h2 ⟨hb, hk.lt⟩ hk hs (fun i j y hy => ⟨⟨(hG i j y hy.1).1, hy.2⟩, (hG i j y hy.1).2⟩) (fun i j i' j' y h h' => hd i j i' j' y h.1 h'.1) ih
theorem LfO.rd {w : World} {S F : Nat → Prop} {ow : Path → Bool} {lf : Leaf} {v : Value} (h : LfO w S lf ow F v) : LfR w (fun y => F y ∨ S y) lf v := by
  induction h with
  | int k n => exact .int k n
  | bool b => exact .bool b
  | str s => exact .str s
  | shr t l _ _ _ h0 h => exact h.keep (fun _ h => .inr h) fun _ _ _ => rfl
  | nil t _ _ A h0 => exact .list t [] A 0 (fun _ _ => undef) (Nat.le_refl _) (by simp [maxLen]) (fun h => absurd rfl h) (fun _ _ _ i x hx => by simp at hx) (fun i x hx => by simp at hx)
  | list t l ow F c b T cs G h0 h1 h2 hb hbk hs hG hd hr ih =>
    refine .list t l _ c (fun i j => cs.getD (i * t.size + j) undef) h1 h2 (fun _ => ⟨b, 0, rfl, .inl hb, hbk.lt⟩) (fun b' o' e i x hx j lf hj => ?_) fun i x hx j lf hj => (ih i x hx j lf hj).keep (fun y hy => hy.imp (fun h => (hG i j y h).1) id) (fun _ _ _ => rfl)
    simp only [Option.some.injEq, Addr.mk.injEq, and_true] at e
    obtain ⟨rfl, rfl⟩ := e
    rw [hbk.cell, Nat.zero_add]
    have hi := (List.getElem?_eq_some_iff.1 hx).1
    have hj' := (List.getElem?_eq_some_iff.1 hj).1
    rw [RT.leaves_len] at hj'
    have hlt : i * t.size + j < cs.size := by
      rw [hs]
      have : (i + 1) * t.size ≤ c * t.size := Nat.mul_le_mul_right _ (by omega)
      rw [Nat.succ_mul] at this
      omega
    rw [Array.getD_eq_getD_getElem?, Array.getElem?_eq_getElem hlt]
    rfl
theorem LfO.release {w : World} {S F : Nat → Prop} {ow ow' : Path → Bool} {lf : Leaf} {v : Value} (h : LfO w S lf ow F v) (F' : Nat → Prop) (h0 : ow' [] = false) : LfO w (fun y => F y ∨ S y) lf ow' F' v := by
  have hr := h.rd
  cases h with
  | int k n => exact .int k n _ _
  | bool b => exact .bool b _ _
  | str s => exact .str s _ _
  | shr t l => exact .shr t l _ _ _ h0 hr
  | nil t => exact .shr t [] _ _ _ h0 hr
  | list t l => exact .shr t l _ _ _ h0 hr
def Own (w : World) (S : Nat → Prop) (t : RT) (x : t.ty) (ow : Nat → Path → Bool) (F : Nat → Prop) (vs : List Value) : Prop := vs.length = t.size ∧ ∃ G : Nat → Nat → Prop, (∀ j y, G j y → F y) ∧ (∀ i j y, G i y → G j y → i = j) ∧
  ∀ (j : Nat) (lf : Leaf), (t.leaves x)[j]? = some lf → ∃ v, vs[j]? = some v ∧ LfO w S lf (ow j) (G j) v
theorem Own.rd {w : World} {S : Nat → Prop} {t : RT} {x : t.ty} {ow : Nat → Path → Bool} {F : Nat → Prop} {vs : List Value} (h : Own w S t x ow F vs) : Rd w (fun y => F y ∨ S y) t x vs := by
  obtain ⟨h1, G, h2, h3, h4⟩ := h
  exact ⟨h1, fun j lf hj => let ⟨v, h5, h6⟩ := h4 j lf hj; ⟨v, h5, h6.rd.keep (fun y hy => hy.imp (h2 j y) id) (fun _ _ _ => rfl)⟩⟩
def hdrs (w : World) : Path → (t : RT) → List t.ty → Hdr → Option Hdr
  | [], _, _, h => some h
  | (i, j) :: p, t, l, h => match h.1, l[i]? with
    | some ⟨b, o, none⟩, some x => match (t.leaves x)[j]? with
      | some (.list t' l') => match w.cell? ⟨b, o + i * t.size + j, none⟩ with
        | some (.slice A m c) => hdrs w p t' l' (A, m, c)
        | _ => none
      | _ => none
    | _, _ => none
def nthL : List Leaf → Nat → Leaf
  | [], _ => .bool false
  | x :: l, j => match j with
    | 0 => x
    | j + 1 => nthL l j
def sub : Path → (t : RT) → List t.ty → (u : RT) × List u.ty
  | [], t, l => ⟨t, l⟩
  | (i, j) :: p, t, l => match nthL (t.leaves (l.getD i t.dflt)) j with
    | .list t' l' => sub p t' l'
    | _ => ⟨.bool, []⟩
theorem nthL_eq : ∀ {l : List Leaf} {j : Nat} {x : Leaf}, l[j]? = some x → nthL l j = x
  | [], _, _, h => by simp at h
  | y :: l, 0, x, h => by simpa [nthL] using h
  | y :: l, j + 1, x, h => by rw [nthL]; exact nthL_eq (by simpa using h)
theorem sub_rd {w : World} {F : Nat → Prop} : ∀ {p : Path} {t : RT} {l : List t.ty} {h h' : Hdr}, LfR w F (.list t l) h.val → hdrs w p t l h = some h' → LfR w F (.list (sub p t l).1 (sub p t l).2) h'.val
  | [], t, l, h, h', hr, e => by obtain rfl := Option.some.inj e; exact hr
  | (i, j) :: p, t, l, (A, m, c), h', hr, e => by
    simp only [hdrs] at e
    split at e
    · rename_i b o x hx
      split at e
      · rename_i t' l' hl
        obtain ⟨b', o', hA, hb, hlt, hc⟩ := hr.elem hx
        simp only [Option.some.injEq, Addr.mk.injEq, and_true] at hA
        obtain ⟨rfl, rfl⟩ := hA
        obtain ⟨v, hcv, hlf⟩ := hc j _ hl
        obtain ⟨A2, c2, rfl, _⟩ := hlf.slice
        rw [hcv] at e
        simp only at e
        have hg : l.getD i t.dflt = x := by rw [List.getD_eq_getElem?_getD, hx]; rfl
        have hn : nthL (t.leaves (l.getD i t.dflt)) j = .list t' l' := by rw [hg]; exact nthL_eq hl
        rw [sub, hn]
        exact sub_rd (h := (A2, List.length (α := t'.ty) l', c2)) hlf e
      · cases e
    · cases e
theorem hdrs_keep {w w' : World} {F : Nat → Prop} (hk : ∀ b, F b → b < w.heap.size → w'.heap[b]? = w.heap[b]?) : ∀ {p : Path} {t : RT} {l : List t.ty} {h : Hdr}, LfR w F (.list t l) h.val → hdrs w' p t l h = hdrs w p t l h
  | [], _, _, _, _ => rfl
  | (i, j) :: p, t, l, (A, m, c), hr => by
    simp only [hdrs]
    split
    · rename_i b o x hx
      split
      · rename_i t' l' hl
        obtain ⟨b', o', hA, hb, hlt, hc⟩ := hr.elem hx
        simp only [Option.some.injEq, Addr.mk.injEq, and_true] at hA
        obtain ⟨rfl, rfl⟩ := hA
        obtain ⟨v, hcv, hlf⟩ := hc j _ hl
        obtain ⟨A2, c2, rfl, _⟩ := hlf.slice
        rw [cell_same (hk b hb hlt) _ rfl, hcv]
        exact hdrs_keep (h := (A2, List.length (α := t'.ty) l', c2)) hk hlf
      · rfl
    · rfl
theorem elem_at {w : World} {F : Nat → Prop} {t : RT} {l : List t.ty} {h : Hdr} (hr : LfR w F (.list t l) h.val) {i : Nat} (hi : i < h.2.1) :
    ∃ b o, h.1 = some ⟨b, o, none⟩ ∧ F b ∧ l[i]? = some (l.getD i t.dflt) ∧ ∀ (j : Nat) (lf : Leaf), (t.leaves (l.getD i t.dflt))[j]? = some lf → ∃ v, w.cell? ⟨b, o + i * t.size + j, none⟩ = some v ∧ LfR w F lf v := by
  have hl := hr.lenEq
  have hx : l[i]? = some (l.getD i t.dflt) := by rw [List.getD_eq_getElem?_getD, List.getElem?_eq_getElem (by omega)]; rfl
  obtain ⟨b, o, h1, h2, _, h3⟩ := hr.elem hx
  exact ⟨b, o, h1, h2, hx, h3⟩
end Go.Proofs.YtiepllpgifnloaaGreat.Vx
namespace Go.Proofs.YtiepllpgifnloaaGreat.Vx
open Go.RowKit
theorem block_of_add (a : Addr) (n : Nat) : (a.add n).block = a.block := by unfold Addr.add; split <;> rfl
theorem add_lit (b o n : Nat) : (⟨b, o, none⟩ : Addr).add n = ⟨b, o + n, none⟩ := by unfold Addr.add; split <;> simp_all
section
variable {w w' : World} {g : Nat} {t : TypeId} {cs : Array Value}
theorem Blk.new (w : World) (t : TypeId) (cs : Array Value) : Blk (w.alloc (.cells cs t)) w.heap.size t cs := ⟨(0, 0), heap_alloc_new w _, .inl rfl⟩
theorem Blk.setRow (h : Blk w g t cs) (cs' : Array Value) (hs : cs'.size = cs.size) : Blk (w.setRow g cs') g t cs' := by
  obtain ⟨fz, h, hf⟩ := h
  exact ⟨fz, setRow_heap w g cs cs' t fz h, by rw [hs]; exact hf⟩
theorem Blk.frozen (h : Blk w g t cs) {i : Nat} (hi : i < cs.size) : w.frozen? ⟨g, i, none⟩ = false := by
  obtain ⟨⟨lo, hi'⟩, h, hf⟩ := h
  simp only [World.frozen?, h, Bool.and_eq_false_iff, decide_eq_false_iff_not]
  simp only at hf
  omega
theorem run_storeB (P : Program) [Fast P] (g o : Nat) (t : TypeId) : ∀ (vs : List Value) (i : Nat) (cur : Array Value) (w : World), Blk w g t cur → o + i + vs.length ≤ cur.size → (∀ v ∈ vs, v.oneCell' = true) →
    (storeCells ⟨g, o, none⟩ vs i).run P w = .ok () (w.setRow g (cur.toList.take (o + i) ++ vs ++ cur.toList.drop (o + i + vs.length)).toArray)
  | [], i, cur, w, hg, _, _ => by
    obtain ⟨fz, hg, _⟩ := hg
    simp only [storeCells, List.append_nil, List.length_nil, Nat.add_zero, List.take_append_drop, Array.toArray_toList]
    rw [setRow_self w g cur t fz hg]
    rfl
  | v :: rest, i, cur, w, hb, hl, h1 => by
    have hi : o + i < cur.size := by simp at hl; omega
    have hadd : (⟨g, o, none⟩ : Addr).add i = ⟨g, o + i, none⟩ := by unfold Addr.add; split <;> simp_all
    have hcell : w.cell? ⟨g, o + i, none⟩ = some cur[o + i] := by rw [hb.cell]; simp [hi]
    have hfro := hb.frozen hi
    have hst : (store ((⟨g, o, none⟩ : Addr).add i) v).run P w = .ok () (w.setRow g (cur.setIfInBounds (o + i) v)) := by
      obtain ⟨fz, hg, _⟩ := hb
      rw [hadd, run_store P w _ v _ (h1 v (by simp)), hcell]
      simp [hfro, setCell_eq_setRow w g (o + i) cur t fz v hg]
    have ih := run_storeB P g o t rest (i + 1) (cur.setIfInBounds (o + i) v) (w.setRow g (cur.setIfInBounds (o + i) v)) (hb.setRow _ (by simp)) (by simp at hl ⊢; omega) (fun x hx => h1 x (by simp [hx]))
    simp only [storeCells, Sem.run_bind, hst, Result.andThen_ok, ih, setRow_setRow]
    congr 3
    have e := list_seg_step cur.toList (o + i) v rest (by simp at hl ⊢; omega)
    simpa [Array.toList_setIfInBounds, Nat.add_assoc] using e
end
structure Kp (K : Nat → Prop) (w w' : World) : Prop where
  os : w'.os = w.os
  tape : w'.tape = w.tape
  output : w'.output = w.output
  size : w.heap.size ≤ w'.heap.size
  block : ∀ k, K k → w'.heap[k]? = w.heap[k]?
theorem Kp.refl (K : Nat → Prop) (w : World) : Kp K w w := ⟨rfl, rfl, rfl, Nat.le_refl _, fun _ _ => rfl⟩
theorem Kp.trans {K : Nat → Prop} {a b c : World} (h : Kp K a b) (k : Kp K b c) : Kp K a c :=
  ⟨k.os.trans h.os, k.tape.trans h.tape, k.output.trans h.output, Nat.le_trans h.size k.size, fun i hi => (k.block i hi).trans (h.block i hi)⟩
theorem Kp.mono {K K' : Nat → Prop} {a b : World} (h : Kp K a b) (hk : ∀ k, K' k → K k) : Kp K' a b := ⟨h.os, h.tape, h.output, h.size, fun k hk' => h.block k (hk k hk')⟩
abbrev lt (B : Nat) : Nat → Prop := fun b => b < B
structure KS where
  k : Nat → Prop
  s : Nat → Prop
  /-- the block of name 0 -/
  p : Nat → Prop
theorem Kp.below {B : Nat} {a b : World} (h : Kp (lt B) a b) : Below B a b := ⟨h.os, h.tape, h.output, h.size, h.block⟩
theorem Kp.of_below {B : Nat} {a b : World} (h : Below B a b) : Kp (lt B) a b := ⟨h.os, h.tape, h.output, h.size, h.block⟩
theorem Kp.alloc {K : Nat → Prop} (w : World) (o : Obj) (hK : ∀ b, K b → b < w.heap.size) : Kp K w (w.alloc o) :=
  ⟨rfl, rfl, rfl, (Below.alloc (Below.refl w.heap.size w) (Nat.le_refl _) o).size, fun k hk => Below.heap_alloc w o k (hK k hk)⟩
theorem Kp.drew (K : Nat → Prop) (w : World) : Kp K w w.drew := ⟨rfl, rfl, rfl, Nat.le_refl _, fun _ _ => rfl⟩
inductive AV where
  /-- an address-free value that is known -/
  | lit (v : Value)
  | sint (k : IntKind) (n : Int)
  | sbool (b : Bool)
  | sstr (s : ByteArray)
  | ptr (b off : Nat)
  /-- 'op': the capacity is that of the block less 'cap' -/
  | sl (b off len cap : Nat) (op : Bool)
  /-- a slice of length 0, wherever it lies -/
  | emp
  /-- a map -/
  | mp (b : Nat)
  | fn (f : FuncId) (caps : List AV)
  /-- a method with its receiver -/
  | bm (f : FuncId) (l : List AV)
  | agg (l : List AV)
  | tup (l : List AV)
  /-- a part of the list at the end of a path through the data i, as it lay at k: elements of sz cells, n of them behind the first lo -/
  | lv (i k : Nat) (p : Path) (sz lo n : Nat)
  /-- the whole of such a list -/
  | lw (i k : Nat) (p : Path) (sz n : Nat)
  /-- a slice of length and capacity 0, wherever it lies -/
  | emz
  /-- a pointer to a cell of an element of such a list -/
  | ep (i k : Nat) (p : Path) (sz idx cell : Nat)
  /-- the cells of data: only as the whole of a block -/
  | tre (ow : Ow) (t : RT) (xs : List t.ty) (k : Nat)
  | ver
  | dead
structure Cap where
  n : Nat
  m : Nat
  A : Option Addr
  hd : Path → Option Hdr
def Cap.of (n : Nat) : Cap := ⟨n, 0, none, fun _ => none⟩
abbrev Rho := Nat → Option (Nat × Cap)
def Rho.le (ρ ρ' : Rho) : Prop := ∀ i x, ρ i = some x → ρ' i = some x
theorem Rho.le.refl (ρ : Rho) : ρ.le ρ := fun _ _ h => h
theorem Rho.le.trans {a b c : Rho} (h : a.le b) (k : b.le c) : a.le c := fun i x e => k i x (h i x e)
def rootH (_ : Nat) (c : Cap) : Hdr := (c.A, c.m, c.n)
def hdrOf (ρ : Rho) (i k : Nat) (p : Path) (h : Hdr) : Prop := ∃ x c y d, ρ i = some (x, c) ∧ ρ k = some (y, d) ∧ match p with
  | [] => h = rootH x c
  | p => d.hd p = some h
theorem hdrOf.mono {ρ ρ' : Rho} (hl : ρ.le ρ') {i k : Nat} {p : Path} {h : Hdr} : hdrOf ρ i k p h → hdrOf ρ' i k p h := fun ⟨x, c, y, d, h1, h2, h3⟩ => ⟨x, c, y, d, hl _ _ h1, hl _ _ h2, h3⟩
def LvR (h : Hdr) (sz lo n : Nat) (v : Value) : Prop := lo + n ≤ h.2.1 ∧ h.2.1 ≤ h.2.2 ∧ ∃ A', v = .slice A' n (h.2.2 - lo) ∧ (lo = 0 → A' = h.1) ∧ (n ≠ 0 → ∃ b o, h.1 = some ⟨b, o, none⟩ ∧ A' = some ⟨b, o + lo * sz, none⟩)
def EpR (h : Hdr) (sz idx cell : Nat) (v : Value) : Prop := idx < h.2.1 ∧ ∃ b o, h.1 = some ⟨b, o, none⟩ ∧ v = .pointer (some ⟨b, o + idx * sz + cell, none⟩)
mutual
def den (ρ : Rho) : AV → Value → Prop
  | .lit u, v => v = u
  | .sint k n, v => v = .int k n
  | .sbool b, v => v = .bool b
  | .sstr s, v => v = .string s
  | .ptr b off, v => ∃ x c, ρ b = some (x, c) ∧ v = .pointer (some ⟨x, off, none⟩)
  | .sl b off len cap op, v => ∃ x c, ρ b = some (x, c) ∧ v = .slice (some ⟨x, off, none⟩) len (if op then c.n - cap else cap) ∧ (op = true → cap ≤ c.n) ∧ len ≤ (if op then c.n - cap else cap)
  | .emp, v => ∃ A c, v = .slice A 0 c
  | .mp b, v => ∃ x c, ρ b = some (x, c) ∧ v = .map (some x)
  | .fn f caps, v => ∃ vs, v = .func (.func f) #[] vs.toArray ∧ dens ρ caps vs
  | .bm f l, v => ∃ vs, v = .func (.func f) vs.toArray #[] ∧ dens ρ l vs
  | .agg l, v => ∃ vs, v = .agg vs.toArray ∧ dens ρ l vs
  | .tup l, v => ∃ vs, v = .tuple vs.toArray ∧ dens ρ l vs
  | .lv i k p sz lo n, v => ∃ h, hdrOf ρ i k p h ∧ LvR h sz lo n v
  | .lw i k p sz n, v => ∃ h, hdrOf ρ i k p h ∧ LvR h sz 0 n v ∧ h.2.1 = n
  | .emz, v => ∃ A, v = .slice A 0 0
  | .ep i k p sz idx cell, v => ∃ h, hdrOf ρ i k p h ∧ EpR h sz idx cell v
  | .tre .., _ => False
  | .ver, _ => False
  | .dead, _ => True
def dens (ρ : Rho) : List AV → List Value → Prop
  | [], vs => vs = []
  | a :: l, vs => ∃ v vs', vs = v :: vs' ∧ den ρ a v ∧ dens ρ l vs'
end
mutual
theorem den_mono {ρ ρ' : Rho} (h : ρ.le ρ') : ∀ {a : AV} {v : Value}, den ρ a v → den ρ' a v
  | .lit _, _, hd => by simpa only [den] using hd
  | .sint .., _, hd => by simpa only [den] using hd
  | .sbool _, _, hd => by simpa only [den] using hd
  | .sstr _, _, hd => by simpa only [den] using hd
  | .ptr b off, _, hd => by
    simp only [den] at hd ⊢
    obtain ⟨x, c, e, r⟩ := hd
    exact ⟨x, c, h _ _ e, r⟩
  | .sl .., _, hd => by
    simp only [den] at hd ⊢
    obtain ⟨x, c, e, r⟩ := hd
    exact ⟨x, c, h _ _ e, r⟩
  | .emp, _, hd => by simpa only [den] using hd
  | .emz, _, hd => by simpa only [den] using hd
  | .lw .., _, hd => by
    simp only [den] at hd ⊢
    obtain ⟨x, e, r⟩ := hd
    exact ⟨x, e.mono h, r⟩
  | .mp b, _, hd => by
    simp only [den] at hd ⊢
    obtain ⟨x, c, e, r⟩ := hd
    exact ⟨x, c, h _ _ e, r⟩
  | .fn f caps, _, hd => by
    simp only [den] at hd ⊢
    obtain ⟨vs, e, r⟩ := hd
    exact ⟨vs, e, dens_mono h r⟩
  | .bm f l, _, hd => by
    simp only [den] at hd ⊢
    obtain ⟨vs, e, r⟩ := hd
    exact ⟨vs, e, dens_mono h r⟩
  | .agg l, _, hd => by
    simp only [den] at hd ⊢
    obtain ⟨vs, e, r⟩ := hd
    exact ⟨vs, e, dens_mono h r⟩
  | .tup l, _, hd => by
    simp only [den] at hd ⊢
    obtain ⟨vs, e, r⟩ := hd
    exact ⟨vs, e, dens_mono h r⟩
  | .lv .., _, hd => by
    simp only [den] at hd ⊢
    obtain ⟨x, e, r⟩ := hd
    exact ⟨x, e.mono h, r⟩
  | .ep .., _, hd => by
    simp only [den] at hd ⊢
    obtain ⟨x, e, r⟩ := hd
    exact ⟨x, e.mono h, r⟩
  | .tre .., _, hd => by simp only [den] at hd
  | .ver, _, hd => by simp only [den] at hd
  | .dead, _, _ => by simp only [den]
theorem dens_mono {ρ ρ' : Rho} (h : ρ.le ρ') : ∀ {l : List AV} {vs : List Value}, dens ρ l vs → dens ρ' l vs
  | [], _, hd => by simpa only [dens] using hd
  | a :: l, _, hd => by
    simp only [dens] at hd ⊢
    obtain ⟨v, vs', e, h1, h2⟩ := hd
    exact ⟨v, vs', e, den_mono h h1, dens_mono h h2⟩
end
theorem dens_length {ρ : Rho} : ∀ {l : List AV} {vs : List Value}, dens ρ l vs → vs.length = l.length
  | [], _, h => by simp only [dens] at h; subst h; rfl
  | a :: l, _, h => by simp only [dens] at h; obtain ⟨v, vs', rfl, _, h2⟩ := h; simp [dens_length h2]
theorem dens_get {ρ : Rho} : ∀ {l : List AV} {vs : List Value} (i : Nat) {a : AV}, dens ρ l vs → l[i]? = some a → ∃ v, vs[i]? = some v ∧ den ρ a v
  | [], _, i, a, h, e => by simp at e
  | a :: l, _, i, b, h, e => by
    simp only [dens] at h
    obtain ⟨v, vs', rfl, h1, h2⟩ := h
    cases i with
    | zero => simp at e; subst e; exact ⟨v, rfl, h1⟩
    | succ i => obtain ⟨u, hu, hd⟩ := dens_get i h2 (by simpa using e); exact ⟨u, by simpa using hu, hd⟩
theorem dens_get' {ρ : Rho} : ∀ {l : List AV} {vs : List Value} (i : Nat) {v : Value}, dens ρ l vs → vs[i]? = some v → ∃ a, l[i]? = some a ∧ den ρ a v
  | [], _, i, a, h, e => by simp only [dens] at h; subst h; simp at e
  | a :: l, _, i, b, h, e => by
    simp only [dens] at h
    obtain ⟨v, vs', rfl, h1, h2⟩ := h
    cases i with
    | zero => simp at e; subst e; exact ⟨a, rfl, h1⟩
    | succ i => obtain ⟨u, hu, hd⟩ := dens_get' i h2 (by simpa using e); exact ⟨u, by simpa using hu, hd⟩
theorem dens_append {ρ : Rho} : ∀ {l m : List AV} {us vs : List Value}, dens ρ l us → dens ρ m vs → dens ρ (l ++ m) (us ++ vs)
  | [], m, _, vs, h, k => by simp only [dens] at h; subst h; exact k
  | a :: l, m, _, vs, h, k => by
    simp only [dens] at h
    obtain ⟨v, vs', rfl, h1, h2⟩ := h
    simp only [List.cons_append, dens]
    exact ⟨v, _, rfl, h1, dens_append h2 k⟩
theorem dens_take {ρ : Rho} : ∀ (n : Nat) {l : List AV} {us : List Value}, dens ρ l us → dens ρ (l.take n) (us.take n)
  | 0, l, us, h => by simp [dens]
  | n + 1, [], _, h => by simp only [dens] at h; subst h; simp [dens]
  | n + 1, a :: l, _, h => by
    simp only [dens] at h
    obtain ⟨v, vs', rfl, h1, h2⟩ := h
    simp only [List.take_succ_cons, dens]
    exact ⟨v, _, rfl, h1, dens_take n h2⟩
theorem dens_drop {ρ : Rho} : ∀ (n : Nat) {l : List AV} {us : List Value}, dens ρ l us → dens ρ (l.drop n) (us.drop n)
  | 0, l, us, h => by simpa using h
  | n + 1, [], _, h => by simp only [dens] at h; subst h; simp [dens]
  | n + 1, a :: l, _, h => by
    simp only [dens] at h
    obtain ⟨v, vs', rfl, h1, h2⟩ := h
    simpa using dens_drop n h2
theorem dens_map_lit {ρ : Rho} : ∀ (vs : List Value), dens ρ (vs.map AV.lit) vs
  | [] => by simp [dens]
  | v :: vs => by simp only [List.map_cons, dens]; exact ⟨v, vs, rfl, by simp only [den], dens_map_lit vs⟩
theorem dens_replicate {ρ : Rho} {a : AV} {v : Value} (h : den ρ a v) : ∀ n, dens ρ (List.replicate n a) (List.replicate n v)
  | 0 => by simp [dens]
  | n + 1 => by simp only [List.replicate_succ, dens]; exact ⟨v, _, rfl, h, dens_replicate h n⟩
def AV.of : Value → AV
  | .agg cs => .agg (cs.toList.map .lit)
  | v => .lit v
theorem den_of {ρ : Rho} (v : Value) : den ρ (AV.of v) v := by
  cases v <;> simp only [AV.of, den]
  exact ⟨_, by simp, dens_map_lit _⟩
def AV.cells : AV → List AV
  | .agg l => l
  | a => [a]
def AV.one : AV → Bool
  | .lit v => v.oneCell'
  | .agg _ | .tup _ | .dead | .tre .. | .ver => false
  | _ => true
def AV.flat : AV → Bool
  | .agg l => l.all AV.one
  | a => a.one
theorem den_one {ρ : Rho} {a : AV} {v : Value} (h : den ρ a v) (h1 : a.one = true) : v.oneCell' = true := by
  cases a with
  | lit u => simp only [den] at h; subst h; exact h1
  | sint k n => simp only [den] at h; subst h; rfl
  | sstr k => simp only [den] at h; subst h; rfl
  | lv i k p sz lo n => simp only [den, LvR] at h; obtain ⟨_, _, _, _, _, rfl, _⟩ := h; rfl
  | lw i k p sz n => simp only [den, LvR] at h; obtain ⟨_, _, ⟨_, _, _, rfl, _⟩, _⟩ := h; rfl
  | emz => simp only [den] at h; obtain ⟨A, rfl⟩ := h; rfl
  | ep i k p sz lo n => simp only [den, EpR] at h; obtain ⟨_, _, _, _, _, _, rfl⟩ := h; rfl
  | tre own t xs k => cases h1
  | ver => cases h1
  | sbool b => simp only [den] at h; subst h; rfl
  | ptr b off => simp only [den] at h; obtain ⟨x, c, _, rfl⟩ := h; rfl
  | sl b off len cap op => simp only [den] at h; obtain ⟨x, c, _, rfl, _⟩ := h; rfl
  | emp => simp only [den] at h; obtain ⟨A, c, rfl⟩ := h; rfl
  | mp b => simp only [den] at h; obtain ⟨x, c, _, rfl⟩ := h; rfl
  | fn f caps => simp only [den] at h; obtain ⟨vs, rfl, _⟩ := h; rfl
  | bm f caps => simp only [den] at h; obtain ⟨vs, rfl, _⟩ := h; rfl
  | agg l => cases h1
  | tup l => cases h1
  | dead => cases h1
theorem dens_one {ρ : Rho} : ∀ {l : List AV} {vs : List Value}, dens ρ l vs → l.all AV.one = true → ∀ v ∈ vs, v.oneCell' = true
  | [], _, h, _ => by simp only [dens] at h; subst h; simp
  | a :: l, _, h, h1 => by
    simp only [dens] at h
    obtain ⟨v, vs', rfl, h2, h3⟩ := h
    simp only [List.all_cons, Bool.and_eq_true] at h1
    intro u hu
    rcases List.mem_cons.1 hu with rfl | hu
    · exact den_one h2 h1.1
    · exact dens_one h3 h1.2 u hu
theorem cells_of_one {v : Value} (h : v.oneCell' = true) : v.cells = #[v] := by cases v <;> first | rfl | cases h
theorem den_cells {ρ : Rho} {a : AV} {v : Value} (h : den ρ a v) (hf : a.flat = true) : dens ρ a.cells v.cells.toList ∧ ∀ u ∈ v.cells.toList, u.oneCell' = true := by
  cases a with
  | agg l =>
    simp only [den] at h
    obtain ⟨vs, rfl, h⟩ := h
    exact ⟨by simpa [AV.cells, Value.cells] using h, by simpa [Value.cells] using dens_one h hf⟩
  | tup l => cases hf
  | dead => cases hf
  | _ =>
    have h1 := den_one h hf
    rw [cells_of_one h1]
    refine ⟨?_, by simpa using h1⟩
    simp only [AV.cells, dens]
    exact ⟨v, [], by simp, h, rfl⟩
structure Bk where
  ty : TypeId
  cells : List AV
  /-- 'some s': behind the cells there may be spare ones; s: the size of an element; 'some 0': a map, or data -/
  op : Option Nat
structure St where
  h : T Bk
  /-- the next number -/
  n : Nat
  /-- what may be written to -/
  wr : Nat → Bool
inductive Kd where
  | tree (ow : Ow) (t : RT) (xs : List t.ty) (k : Nat)
  | ver
  | map
def kindOf : List AV → Kd
  | [.tre ow t xs k] => .tree ow t xs k
  | [.ver] => .ver
  | _ => .map
def CellsR (ρ : Rho) (w : World) (x : Nat) (c : Cap) (bk : Bk) : Prop :=
  ∃ vs rest, dens ρ bk.cells vs ∧ Blk w x bk.ty (vs ++ rest).toArray ∧ (∀ v ∈ vs, v.oneCell' = true) ∧ (bk.op = none → rest = []) ∧ (∀ s, bk.op = some s → (vs ++ rest).length = c.n * s)
def mapEntries : Nat → List Value → List MapEntry
  | i, k :: v :: l => { key := k, val := v, born := i } :: mapEntries (i + 1) l
  | _, _ => []
def MapR (ρ : Rho) (w : World) (x : Nat) (bk : Bk) : Prop :=
  ∃ vs n, dens ρ bk.cells vs ∧ vs.length = 2 * n ∧ w.heap[x]? = some (.map (mapEntries 0 vs).toArray n)
def OwnR (w : World) (S F : Nat → Prop) (ow : Ow) (t : RT) (xs : List t.ty) (v : Value) : Prop := match ow with
  | .ro => LfR w F (.list t xs) v
  | ow => LfO w S (.list t xs) (ow.f t) F v
structure TreeR (ρ : Rho) (w : World) (S F : Nat → Prop) (x : Nat) (c : Cap) (ow : Ow) (t : RT) (xs : List t.ty) (k : Nat) : Prop where
  len : c.m = xs.length
  own : OwnR w S F ow t xs (rootH x c).val
  lt : ∀ y, F y → y < w.heap.size
  hds : ∃ y d, ρ k = some (y, d) ∧ d.hd = fun p => hdrs w p t xs (rootH x c)
theorem TreeR.rd {ρ : Rho} {w : World} {S F : Nat → Prop} {x : Nat} {c : Cap} {ow : Ow} {t : RT} {xs : List t.ty} {k : Nat} (h : TreeR ρ w S F x c ow t xs k) : LfR w (fun y => F y ∨ S y) (.list t xs) (rootH x c).val := by
  have := h.own
  cases ow with
  | ro => exact LfR.keep this (fun y hy => .inl hy) fun _ _ _ => rfl
  | _ => exact LfO.rd this
def KdR (ρ : Rho) (w : World) (S F : Nat → Prop) (x : Nat) (c : Cap) (bk : Bk) : Kd → Prop
  | .tree ow t xs k => TreeR ρ w S F x c ow t xs k
  | .ver => ∀ y, ¬ F y
  | .map => (∀ y, F y ↔ y = x) ∧ MapR ρ w x bk
def BkR (ρ : Rho) (w : World) (S F : Nat → Prop) (x : Nat) (c : Cap) (bk : Bk) : Prop := (bk.op ≠ some 0 → (∀ y, F y ↔ y = x) ∧ CellsR ρ w x c bk) ∧ (bk.op = some 0 → KdR ρ w S F x c bk (kindOf bk.cells))
theorem heap_lt {w : World} {x : Nat} {o : Obj} (h : w.heap[x]? = some o) : x < w.heap.size := by
  rcases Nat.lt_or_ge x w.heap.size with hlt | hge
  · exact hlt
  · rw [Array.getElem?_eq_none hge] at h; cases h
theorem CellsR.lt {ρ : Rho} {w : World} {x : Nat} {c : Cap} {bk : Bk} (h : CellsR ρ w x c bk) : x < w.heap.size := by
  obtain ⟨vs, rest, h1, h2, _⟩ := h
  exact h2.lt
theorem MapR.lt {ρ : Rho} {w : World} {x : Nat} {bk : Bk} (h : MapR ρ w x bk) : x < w.heap.size := by
  obtain ⟨vs, n, h1, h2, h3⟩ := h
  exact heap_lt h3
theorem CellsR.mono {ρ ρ' : Rho} {w w' : World} {x : Nat} {c : Cap} {bk : Bk} (h : CellsR ρ w x c bk) (hr : ρ.le ρ') (e : w'.heap[x]? = w.heap[x]?) : CellsR ρ' w' x c bk := by
  obtain ⟨vs, rest, h1, h2, h3, h4, h5⟩ := h
  exact ⟨vs, rest, dens_mono hr h1, h2.same e, h3, h4, h5⟩
theorem TreeR.mono {ρ ρ' : Rho} {w w' : World} {S S' F : Nat → Prop} {x : Nat} {c : Cap} {ow : Ow} {t : RT} {xs : List t.ty} {k : Nat} (h : TreeR ρ w S F x c ow t xs k) (hr : ρ.le ρ') (e : ∀ y, F y → w'.heap[y]? = w.heap[y]?) (hS : ∀ y, S y → S' y) (eS : ∀ y, S y → w'.heap[y]? = w.heap[y]?) : TreeR ρ' w' S' F x c ow t xs k := by
  obtain ⟨y, d, h1, h2⟩ := h.hds
  refine ⟨h.len, ?_, fun y hy => lt_same (e y hy) (h.lt y hy), y, d, hr _ _ h1, h2.trans ?_⟩
  · have h3 := h.own
    cases ow with
    | ro => exact LfR.keep h3 (fun _ h => h) (fun b hb _ => e b hb)
    | _ => exact LfO.keep h3 (fun b hb _ => e b hb) hS (fun b hb _ => eS b hb)
  funext p
  exact (hdrs_keep (fun b hb _ => hb.elim (e b) (eS b)) h.rd).symm
theorem BkR.mono {ρ ρ' : Rho} {w w' : World} {S S' F : Nat → Prop} {x : Nat} {c : Cap} {bk : Bk} (h : BkR ρ w S F x c bk) (hr : ρ.le ρ') (e : ∀ y, F y → w'.heap[y]? = w.heap[y]?) (hS : ∀ y, S y → S' y) (eS : ∀ y, S y → w'.heap[y]? = w.heap[y]?) : BkR ρ' w' S' F x c bk := by
  refine ⟨fun hn => ⟨(h.1 hn).1, (h.1 hn).2.mono hr (e x (((h.1 hn).1 x).2 rfl))⟩, fun hn => ?_⟩
  have h2 := h.2 hn
  revert h2
  cases kindOf bk.cells with
  | tree own t xs k => exact fun h2 => TreeR.mono h2 hr e hS eS
  | ver => exact id
  | map =>
    rintro ⟨hF, vs, n, h1, h2, h3⟩
    exact ⟨hF, vs, n, dens_mono hr h1, h2, (e x ((hF x).2 rfl)).trans h3⟩
theorem BkR.lt {ρ : Rho} {w : World} {S F : Nat → Prop} {x : Nat} {c : Cap} {bk : Bk} (h : BkR ρ w S F x c bk) : ∀ y, F y → y < w.heap.size := by
  intro y hy
  by_cases hn : bk.op = some 0
  · have h2 := h.2 hn
    revert h2
    cases kindOf bk.cells with
    | tree own t xs k => exact fun h2 => TreeR.lt h2 y hy
    | ver => exact fun h2 => (h2 y hy).elim
    | map => exact fun h2 => (h2.1 y).1 hy ▸ h2.2.lt
  · exact ((h.1 hn).1 y).1 hy ▸ (h.1 hn).2.lt
def getC (h : T Bk) (b : Nat) : Option Bk := match h.get b with
  | some bk => match bk.op with
    | some 0 => none
    | _ => some bk
  | none => none
theorem getC_some {h : T Bk} {b : Nat} {bk : Bk} (e : getC h b = some bk) : h.get b = some bk ∧ bk.op ≠ some 0 := by
  unfold getC at e
  split at e
  · rename_i bk' hb
    split at e
    · cases e
    · rename_i hn
      obtain rfl := Option.some.inj e
      exact ⟨hb, fun h => hn h⟩
  · cases e
def getM (h : T Bk) (b : Nat) : Option (List AV) := match h.get b with
  | some bk => match bk.op with
    | some 0 => match kindOf bk.cells with
      | .map => some bk.cells
      | _ => none
    | _ => none
  | none => none
theorem getM_some {h : T Bk} {b : Nat} {l : List AV} (e : getM h b = some l) : ∃ bk, h.get b = some bk ∧ bk.op = some 0 ∧ kindOf bk.cells = .map ∧ bk.cells = l := by
  unfold getM at e
  split at e
  · rename_i bk' hb
    split at e
    · rename_i hn
      split at e
      · rename_i hk; obtain rfl := Option.some.inj e; exact ⟨_, hb, hn, hk, rfl⟩
      · cases e
    · cases e
  · cases e
structure SimF (K : KS) (w0 : World) (ρ : Rho) (S : Nat → Prop) (F : Nat → Nat → Prop) (st : St) (w : World) : Prop where
  kp : Kp K.k w0 w
  lt : ∀ b, K.k b → b < w0.heap.size
  ss : ∀ b, K.s b → S b
  sk : ∀ b, S b → K.k b → K.s b
  sl : ∀ b, S b → b < w.heap.size
  blk : ∀ i bk, st.h.get i = some bk → ∃ x c, ρ i = some (x, c) ∧ BkR ρ w S (F i) x c bk ∧ (st.wr i = true → ∀ y, F i y → ¬ K.k y)
  sd : ∀ i bk y, st.h.get i = some bk → st.wr i = true → F i y → ¬ S y
  sep : ∀ i j bi bj y, st.h.get i = some bi → st.h.get j = some bj → i ≠ j → (st.wr i = true ∨ st.wr j = true) → F i y → F j y → False
  dom : ∀ i, ρ i ≠ none → i < st.n
  pn : 0 < st.n ∧ ∀ x c, ρ 0 = some (x, c) → K.p x
def Sim (K : KS) (w0 : World) (ρ : Rho) (st : St) (w : World) : Prop := ∃ S F, SimF K w0 ρ S F st w
variable {K : KS} {w0 w : World} {ρ : Rho} {S : Nat → Prop} {F : Nat → Nat → Prop} {st : St}
theorem Sim.kp (h : Sim K w0 ρ st w) : Kp K.k w0 w := let ⟨_, _, h⟩ := h; h.kp
theorem Sim.lt (h : Sim K w0 ρ st w) : ∀ b, K.k b → b < w0.heap.size := let ⟨_, _, h⟩ := h; h.lt
theorem Sim.dom (h : Sim K w0 ρ st w) : ∀ i, ρ i ≠ none → i < st.n := let ⟨_, _, h⟩ := h; h.dom
theorem SimF.ltw (h : SimF K w0 ρ S F st w) : ∀ b, K.k b → b < w.heap.size := fun b hb => Nat.lt_of_lt_of_le (h.lt b hb) h.kp.size
theorem Sim.ltw (h : Sim K w0 ρ st w) : ∀ b, K.k b → b < w.heap.size := let ⟨_, _, h⟩ := h; h.ltw
theorem SimF.to {w' : World} (h : SimF K w0 ρ S F st w) (hk : Kp (fun b => b < w.heap.size) w w') : SimF K w0 ρ S F st w' :=
  ⟨h.kp.trans (hk.mono h.ltw), h.lt, h.ss, h.sk, fun b hb => Nat.lt_of_lt_of_le (h.sl b hb) hk.size, fun i bk hi => by
    obtain ⟨x, c, e, hb, hn⟩ := h.blk i bk hi
    exact ⟨x, c, e, hb.mono (.refl ρ) (fun y hy => hk.block y (hb.lt y hy)) (fun _ h => h) (fun y hy => hk.block y (h.sl y hy)), hn⟩, h.sd, h.sep, h.dom, h.pn⟩
theorem Sim.to {w' : World} (h : Sim K w0 ρ st w) (hk : Kp (fun b => b < w.heap.size) w w') : Sim K w0 ρ st w' := let ⟨S, F, h⟩ := h; ⟨S, F, h.to hk⟩
theorem Sim.drew (h : Sim K w0 ρ st w) : Sim K w0 ρ st w.drew := h.to (Kp.drew _ w)
def Rho.up (ρ : Rho) (n : Nat) (x : Nat × Cap) : Rho := fun i => if i = n then some x else ρ i
theorem Rho.le_up {ρ : Rho} {n : Nat} {x : Nat × Cap} (h : ρ n = none) : ρ.le (ρ.up n x) := fun i y e => by
  unfold Rho.up
  by_cases hi : i = n
  · subst hi; rw [h] at e; cases e
  · rw [if_neg hi]; exact e
theorem Sim.fresh (h : Sim K w0 ρ st w) : ρ st.n = none := by
  cases e : ρ st.n with
  | none => rfl
  | some x => exact absurd (h.dom st.n (by rw [e]; simp)) (Nat.lt_irrefl _)
structure Ext (n n' : Nat) (ρ ρ' : Rho) : Prop where
  le : ρ.le ρ'
  same : ∀ i, i < n → ρ' i = ρ i
  num : n ≤ n'
theorem Ext.refl (n : Nat) (ρ : Rho) : Ext n n ρ ρ := ⟨.refl ρ, fun _ _ => rfl, Nat.le_refl n⟩
theorem Ext.trans {n n' n'' : Nat} {ρ ρ' ρ'' : Rho} (h : Ext n n' ρ ρ') (k : Ext n' n'' ρ' ρ'') : Ext n n'' ρ ρ'' :=
  ⟨h.le.trans k.le, fun i hi => (k.same i (Nat.lt_of_lt_of_le hi h.num)).trans (h.same i hi), Nat.le_trans h.num k.num⟩
theorem Ext.up {ρ : Rho} {n : Nat} (x : Nat × Cap) (h : ρ n = none) : Ext n (n + 1) ρ (ρ.up n x) :=
  ⟨Rho.le_up h, fun i hi => by unfold Rho.up; rw [if_neg (by omega)], by omega⟩
def Fup (F : Nat → Nat → Prop) (n : Nat) (G : Nat → Prop) : Nat → Nat → Prop := fun i y => if i = n then G y else F i y
theorem Fup_self {F : Nat → Nat → Prop} {n : Nat} {G : Nat → Prop} : Fup F n G n = G := by funext y; simp [Fup]
theorem Fup_ne {F : Nat → Nat → Prop} {n i : Nat} {G : Nat → Prop} (h : i ≠ n) : Fup F n G i = F i := by funext y; simp [Fup, h]
theorem kindOf_len {l : List AV} (h : l.length ≠ 1) : kindOf l = .map := by
  match l, h with
  | [], _ => rfl
  | [a], h => exact absurd rfl h
  | a :: b :: l, _ => cases a <;> rfl
theorem dens_len0 {ρ : Rho} : ∀ {l : List AV} {vs : List Value}, dens ρ l vs → vs.length = l.length
  | [], _, h => by simp only [dens] at h; subst h; rfl
  | a :: l, _, h => by simp only [dens] at h; obtain ⟨v, vs', rfl, _, h2⟩ := h; simp [dens_len0 h2]
theorem BkR.map {w : World} {S : Nat → Prop} {x : Nat} {c : Cap} {ty : TypeId} {cells : List AV} {vs : List Value} {n : Nat} (hd : dens ρ cells vs) (hl : vs.length = 2 * n) (hh : w.heap[x]? = some (.map (mapEntries 0 vs).toArray n)) : BkR ρ w S (fun y => y = x) x c ⟨ty, cells, some 0⟩ := by
  refine ⟨fun e => absurd rfl e, fun _ => ?_⟩
  have : kindOf cells = .map := kindOf_len (by have := dens_len0 hd; omega)
  show KdR _ _ _ _ _ _ _ (kindOf cells)
  rw [this]
  exact ⟨fun _ => Iff.rfl, vs, n, hd, hl, hh⟩
theorem Sim.blkM (h : Sim K w0 ρ st w) {i : Nat} {l : List AV} (hi : getM st.h i = some l) : ∃ bk x c, st.h.get i = some bk ∧ bk.cells = l ∧ kindOf bk.cells = .map ∧ ρ i = some (x, c) ∧ MapR ρ w x bk ∧ (st.wr i = true → ¬ K.k x) := by
  obtain ⟨S, F, h⟩ := h
  obtain ⟨bk, h1, h2, h3, h4⟩ := getM_some hi
  obtain ⟨x, c, h5, h6, h7⟩ := h.blk i bk h1
  have h8 := h6.2 h2
  rw [h3] at h8
  exact ⟨bk, x, c, h1, h4, h3, h5, h8.2, fun hw => h7 hw x ((h8.1 x).2 rfl)⟩
theorem Sim.blk (h : Sim K w0 ρ st w) (i : Nat) (bk : Bk) (hi : st.h.get i = some bk) : ∃ x c, ρ i = some (x, c) ∧ ∃ S G, BkR ρ w S G x c bk ∧ (st.wr i = true → ∀ y, G y → ¬ K.k y) := by
  obtain ⟨S, F, h⟩ := h
  obtain ⟨x, c, h1, h2⟩ := h.blk i bk hi
  exact ⟨x, c, h1, _, _, h2⟩
theorem SimF.less (h : SimF K w0 ρ S F st w) (st' : St) (hg : ∀ i bk, st'.h.get i = some bk → st.h.get i = some bk) (hn : st.n ≤ st'.n) (hl : ∀ i, st'.wr i = true → st.wr i = true) : SimF K w0 ρ S F st' w :=
  ⟨h.kp, h.lt, h.ss, h.sk, h.sl, fun i bk hi => by
    obtain ⟨x, c, e, hb, hk⟩ := h.blk i bk (hg i bk hi)
    exact ⟨x, c, e, hb, fun hli => hk (hl i hli)⟩, fun i bk y hi hw => h.sd i bk y (hg i bk hi) (hl i hw), fun i j bi bj y hi hj hij hw => h.sep i j bi bj y (hg i bi hi) (hg j bj hj) hij (hw.imp (hl i) (hl j)), fun i hi => Nat.lt_of_lt_of_le (h.dom i hi) hn, Nat.lt_of_lt_of_le h.pn.1 hn, h.pn.2⟩
theorem Sim.less (h : Sim K w0 ρ st w) (st' : St) (hg : ∀ i bk, st'.h.get i = some bk → st.h.get i = some bk) (hn : st.n ≤ st'.n) (hl : ∀ i, st'.wr i = true → st.wr i = true) : Sim K w0 ρ st' w := let ⟨S, F, h⟩ := h; ⟨S, F, h.less st' hg hn hl⟩
theorem SimF.share (h : SimF K w0 ρ S F st w) (S' : Nat → Prop) (hS : ∀ y, S y → S' y) (hk : ∀ y, S' y → S y ∨ (¬ K.k y ∧ y < w.heap.size)) (hd : ∀ i bk y, st.h.get i = some bk → st.wr i = true → F i y → ¬ S' y) : SimF K w0 ρ S' F st w :=
  ⟨h.kp, h.lt, fun b hb => hS b (h.ss b hb), fun b hb hK => (hk b hb).elim (fun h1 => h.sk b h1 hK) (fun h1 => absurd hK h1.1), fun b hb => (hk b hb).elim (h.sl b) (fun h1 => h1.2), fun i bk hi => by
    obtain ⟨x, c, e, hb, hn⟩ := h.blk i bk hi
    exact ⟨x, c, e, hb.mono (.refl ρ) (fun _ _ => rfl) hS (fun _ _ => rfl), hn⟩, hd, h.sep, h.dom, h.pn⟩
theorem SimF.nameG {w' : World} (h : SimF K w0 ρ S F st w) (hkp : Kp K.k w w') (hk : ∀ j bj, st.h.get j = some bj → ∀ y, F j y → w'.heap[y]? = w.heap[y]?) (hkS : ∀ y, S y → w'.heap[y]? = w.heap[y]?) (bk0 : Bk) (x : Nat) (c : Cap) (G : Nat → Prop) (hb0 : BkR (ρ.up st.n (x, c)) w' S G x c bk0)
    (hG : ∀ y, G y → (st.wr st.n = true → ¬ K.k y ∧ ¬ S y) ∧ ∀ j bj, st.h.get j = some bj → (st.wr st.n = true ∨ st.wr j = true) → ¬ F j y) :
    SimF K w0 (ρ.up st.n (x, c)) S (Fup F st.n G) ⟨st.h.set st.n bk0, st.n + 1, st.wr⟩ w' ∧ Ext st.n (st.n + 1) ρ (ρ.up st.n (x, c)) := by
  have hf : ρ st.n = none := Sim.fresh ⟨S, F, h⟩
  have hle : ρ.le (ρ.up st.n (x, c)) := Rho.le_up hf
  refine ⟨⟨h.kp.trans hkp, h.lt, h.ss, h.sk, fun b hb => lt_same (hkS b hb) (h.sl b hb), fun i bk hi => ?_, fun i bk y hi hw hy => ?_, fun i j bi bj y hi hj hij hw hyi hyj => ?_, fun i hi => ?_, Nat.lt_succ_of_lt h.pn.1, fun z cz e => ?_⟩, Ext.up _ hf⟩
  · rw [T.get_put] at hi
    by_cases hin : i = st.n
    · subst hin
      rw [if_pos rfl] at hi
      obtain rfl := Option.some.inj hi
      refine ⟨x, c, by simp [Rho.up], by rw [Fup_self]; exact hb0, fun hwr y hy => ?_⟩
      rw [Fup_self] at hy
      exact ((hG y hy).1 hwr).1
    · rw [if_neg hin] at hi
      obtain ⟨x, c', e, hb, hn⟩ := h.blk i bk hi
      rw [Fup_ne hin]
      exact ⟨x, c', hle _ _ e, hb.mono hle (hk i bk hi) (fun _ h => h) hkS, hn⟩
  · rw [T.get_put] at hi
    by_cases hin : i = st.n
    · rw [hin, Fup_self] at hy
      rw [hin] at hw
      exact ((hG y hy).1 hw).2
    · rw [if_neg hin] at hi
      rw [Fup_ne hin] at hy
      exact h.sd i bk y hi hw hy
  · rw [T.get_put] at hi hj
    by_cases hin : i = st.n
    · by_cases hjn : j = st.n
      · exact hij (hin.trans hjn.symm)
      · rw [if_neg hjn] at hj
        rw [hin, Fup_self] at hyi
        rw [Fup_ne hjn] at hyj
        rw [hin] at hw
        exact (hG y hyi).2 j bj hj hw hyj
    · rw [if_neg hin] at hi
      rw [Fup_ne hin] at hyi
      by_cases hjn : j = st.n
      · rw [hjn, Fup_self] at hyj
        rw [hjn] at hw
        exact (hG y hyj).2 i bi hi hw.symm hyi
      · rw [if_neg hjn] at hj
        rw [Fup_ne hjn] at hyj
        exact h.sep i j bi bj y hi hj hij hw hyi hyj
  · show i < st.n + 1
    simp only [Rho.up] at hi
    by_cases hin : i = st.n
    · omega
    · rw [if_neg hin] at hi
      have := h.dom i hi
      omega
  · have h0 := h.pn.1
    simp only [Rho.up] at e
    rw [if_neg (by omega)] at e
    exact h.pn.2 z cz e
theorem SimF.name {w' : World} (h : SimF K w0 ρ S F st w) (hk : Kp (fun b => b < w.heap.size) w w') (bk0 : Bk) (x : Nat) (c : Cap) (G : Nat → Prop) (hb0 : BkR (ρ.up st.n (x, c)) w' S G x c bk0) (hG : ∀ y, G y → w.heap.size ≤ y) :
    SimF K w0 (ρ.up st.n (x, c)) S (Fup F st.n G) ⟨st.h.set st.n bk0, st.n + 1, st.wr⟩ w' ∧ Ext st.n (st.n + 1) ρ (ρ.up st.n (x, c)) := by
  have hlt : ∀ j bj, st.h.get j = some bj → ∀ y, F j y → y < w.heap.size := fun j bj hj y hy => by
    obtain ⟨_, _, _, hb, _⟩ := h.blk j bj hj
    exact hb.lt y hy
  refine h.nameG (hk.mono h.ltw) (fun j bj hj y hy => hk.block y (hlt j bj hj y hy)) (fun y hy => hk.block y (h.sl y hy)) bk0 x c G hb0 fun y hy => ⟨fun _ => ⟨fun hK => ?_, fun hS => ?_⟩, fun j bj hj _ hyj => ?_⟩
  · have := h.ltw y hK; have := hG y hy; omega
  · have := h.sl y hS; have := hG y hy; omega
  · have := hlt j bj hj y hyj; have := hG y hy; omega
theorem SimF.turn {w' : World} (h : SimF K w0 ρ S F st w) (i : Nat) {bk : Bk} (hi : st.h.get i = some bk) (hl : st.wr i = true) (hw : Kp (fun b => b < w.heap.size ∧ ¬ F i b) w w') (bk0 : Bk) (x : Nat) (c : Cap) (G : Nat → Prop) (hG : ∀ y, G y → F i y ∨ w.heap.size ≤ y)
    (hb0 : BkR (ρ.up st.n (x, c)) w' S G x c bk0) :
    SimF K w0 (ρ.up st.n (x, c)) S (Fup F st.n G) ⟨(st.h.put i none).set st.n bk0, st.n + 1, st.wr⟩ w' ∧ Ext st.n (st.n + 1) ρ (ρ.up st.n (x, c)) := by
  obtain ⟨_, _, _, hbi, hn⟩ := h.blk i bk hi
  have hnk := hn hl
  have hsub : ∀ j bj, (st.h.put i none).get j = some bj → j ≠ i ∧ st.h.get j = some bj := fun j bj hj => by
    rw [T.get_put] at hj
    by_cases hji : j = i
    · rw [if_pos hji] at hj; cases hj
    · rw [if_neg hji] at hj; exact ⟨hji, hj⟩
  have h1 : SimF K w0 ρ S F ⟨st.h.put i none, st.n, st.wr⟩ w := h.less _ (fun j bj hj => (hsub j bj hj).2) (Nat.le_refl _) (fun _ h => h)
  refine h1.nameG (hw.mono fun b hb => ⟨h.ltw b hb, fun e => hnk b e hb⟩) (fun j bj hj y hy => ?_) (fun y hy => hw.block y ⟨h.sl y hy, fun e => h.sd i bk y hi hl e hy⟩) bk0 x c G hb0 fun y hy => ⟨fun _ => ⟨fun hK => ?_, fun hS => ?_⟩, fun j bj hj _ hyj => ?_⟩
  · obtain ⟨h2, h3⟩ := hsub j bj hj
    obtain ⟨_, _, _, hb, _⟩ := h.blk j bj h3
    exact hw.block y ⟨hb.lt y hy, fun e => h.sep j i bj bk y h3 hi h2 (.inr hl) hy e⟩
  · rcases hG y hy with h2 | h2
    · exact hnk y h2 hK
    · have := h.ltw y hK; omega
  · rcases hG y hy with h2 | h2
    · exact h.sd i bk y hi hl h2 hS
    · have := h.sl y hS; omega
  · obtain ⟨h2, h3⟩ := hsub j bj hj
    obtain ⟨_, _, _, hb, _⟩ := h.blk j bj h3
    rcases hG y hy with h4 | h4
    · exact h.sep j i bj bk y h3 hi h2 (.inr hl) hyj h4
    · have := hb.lt y hyj; omega
theorem Sim.new (h : Sim K w0 ρ st w) (bk0 : Bk) (c : Cap) (o : Obj) (hb0 : ∀ S, BkR (ρ.up st.n (w.heap.size, c)) (w.alloc o) S (fun y => y = w.heap.size) w.heap.size c bk0) :
    Sim K w0 (ρ.up st.n (w.heap.size, c)) ⟨st.h.set st.n bk0, st.n + 1, st.wr⟩ (w.alloc o) ∧ Ext st.n (st.n + 1) ρ (ρ.up st.n (w.heap.size, c)) := by
  obtain ⟨S, F, h⟩ := h
  obtain ⟨h1, h2⟩ := h.name (Kp.alloc w o (fun _ h => h)) bk0 _ c _ (hb0 S) (fun y hy => by omega)
  exact ⟨⟨_, _, h1⟩, h2⟩
theorem Sim.alloc (h : Sim K w0 ρ st w) (ty : TypeId) (cells : List AV) (op : Option Nat) (hop : op ≠ some 0) (c : Nat) (vs rest : List Value) (hd : dens ρ cells vs) (h1 : ∀ v ∈ vs, v.oneCell' = true) (ho : op = none → rest = []) (hs : ∀ s, op = some s → (vs ++ rest).length = c * s) :
    Sim K w0 (ρ.up st.n (w.heap.size, .of c)) ⟨st.h.set st.n ⟨ty, cells, op⟩, st.n + 1, st.wr⟩ (w.alloc (.cells (vs ++ rest).toArray ty)) ∧ Ext st.n (st.n + 1) ρ (ρ.up st.n (w.heap.size, .of c)) :=
  h.new _ (.of c) _ fun _ => ⟨fun _ => ⟨fun _ => Iff.rfl, vs, rest, dens_mono (Rho.le_up h.fresh) hd, Blk.new w ty _, h1, ho, hs⟩, fun e => absurd e hop⟩
theorem SimF.blkC (h : SimF K w0 ρ S F st w) {i : Nat} {bk : Bk} (hi : getC st.h i = some bk) : ∃ x c, ρ i = some (x, c) ∧ (∀ y, F i y ↔ y = x) ∧ CellsR ρ w x c bk ∧ (st.wr i = true → ¬ K.k x) := by
  obtain ⟨h1, h2⟩ := getC_some hi
  obtain ⟨x, c, h3, h4, h5⟩ := h.blk i bk h1
  exact ⟨x, c, h3, (h4.1 h2).1, (h4.1 h2).2, fun hw => h5 hw x (((h4.1 h2).1 x).2 rfl)⟩
theorem Sim.blkC (h : Sim K w0 ρ st w) {i : Nat} {bk : Bk} (hi : getC st.h i = some bk) : ∃ x c, ρ i = some (x, c) ∧ CellsR ρ w x c bk ∧ (st.wr i = true → ¬ K.k x) := by
  obtain ⟨S, F, h⟩ := h
  obtain ⟨x, c, h1, _, h2⟩ := h.blkC hi
  exact ⟨x, c, h1, h2⟩
theorem SimF.write (h : SimF K w0 ρ S F st w) (i : Nat) {bk : Bk} {x : Nat} {c : Cap} (hi : st.h.get i = some bk) (hl : st.wr i = true) (he : ρ i = some (x, c)) (bk' : Bk) (w' : World) (G : Nat → Prop) (hG : ∀ y, G y → F i y ∨ w.heap.size ≤ y)
    (hw : Kp (fun b => b < w.heap.size ∧ ¬ F i b) w w') (hb' : BkR ρ w' S G x c bk') :
    SimF K w0 ρ S (Fup F i G) ⟨st.h.set i bk', st.n, st.wr⟩ w' := by
  obtain ⟨x', c', e, hb, hn⟩ := h.blk i bk hi
  have hnk := hn hl
  have hSk : ∀ y, S y → w'.heap[y]? = w.heap[y]? := fun y hy => hw.block y ⟨h.sl y hy, fun e => h.sd i bk y hi hl e hy⟩
  refine ⟨h.kp.trans (hw.mono fun b hb => ⟨h.ltw b hb, fun e => hnk b e hb⟩), h.lt, h.ss, h.sk, fun y hy => lt_same (hSk y hy) (h.sl y hy), fun j bj hj => ?_, fun j bj y hj hwj hy => ?_, fun j k bj bk2 y hj hk hjk hww hyj hyk => ?_, h.dom, h.pn⟩
  · rw [T.get_put] at hj
    by_cases hji : j = i
    · subst hji
      rw [if_pos rfl] at hj
      obtain rfl := Option.some.inj hj
      rw [Fup_self]
      refine ⟨x, c, he, hb', fun _ y hy hK => ?_⟩
      rcases hG y hy with h1 | h1
      · exact hnk y h1 hK
      · have := h.ltw y hK; omega
    · rw [if_neg hji] at hj
      obtain ⟨y, cy, ey, hby, hny⟩ := h.blk j bj hj
      rw [Fup_ne hji]
      exact ⟨y, cy, ey, hby.mono (.refl ρ) (fun z hz => hw.block z ⟨hby.lt z hz, fun e => h.sep j i bj bk z hj hi hji (.inr hl) hz e⟩) (fun _ h => h) hSk, hny⟩
  · rw [T.get_put] at hj
    by_cases hji : j = i
    · subst hji
      rw [Fup_self] at hy
      rcases hG y hy with h1 | h1
      · exact h.sd j bk y hi hl h1
      · intro hS; have := h.sl y hS; omega
    · rw [if_neg hji] at hj
      rw [Fup_ne hji] at hy
      exact h.sd j bj y hj hwj hy
  · have key : ∀ {k bk2} {y : Nat}, k ≠ i → st.h.get k = some bk2 → G y → F k y → False := fun {k bk2 y} hki hk hy hyk => by
      rcases hG y hy with h1 | h1
      · exact h.sep k i bk2 bk y hk hi hki (.inr hl) hyk h1
      · obtain ⟨_, _, _, hbk, _⟩ := h.blk k bk2 hk
        have := hbk.lt y hyk; omega
    rw [T.get_put] at hj hk
    by_cases hji : j = i
    · subst hji
      have hki : k ≠ j := fun e => hjk e.symm
      rw [if_neg hki] at hk
      rw [Fup_self] at hyj
      rw [Fup_ne hki] at hyk
      exact key hki hk hyj hyk
    · rw [if_neg hji] at hj
      rw [Fup_ne hji] at hyj
      by_cases hki : k = i
      · subst hki
        rw [Fup_self] at hyk
        exact key hji hj hyk hyj
      · rw [if_neg hki] at hk
        rw [Fup_ne hki] at hyk
        exact h.sep j k bj bk2 y hj hk hjk hww hyj hyk
theorem Sim.write (h : Sim K w0 ρ st w) (i : Nat) {bk : Bk} {x : Nat} {c : Cap} (hi : st.h.get i = some bk) (hl : st.wr i = true) (he : ρ i = some (x, c)) (hx : bk.op ≠ some 0 ∨ kindOf bk.cells = .map) (bk' : Bk) (w' : World) (hw : Kp (fun b => b < w.heap.size ∧ b ≠ x) w w') (hb' : ∀ S, BkR ρ w' S (fun y => y = x) x c bk') :
    Sim K w0 ρ ⟨st.h.set i bk', st.n, st.wr⟩ w' := by
  obtain ⟨S, F, h⟩ := h
  obtain ⟨x', c', e, hb, hn⟩ := h.blk i bk hi
  rw [he] at e
  obtain ⟨rfl, rfl⟩ := Prod.mk.inj (Option.some.inj e)
  have hF : ∀ y, F i y ↔ y = x := by
    by_cases ho : bk.op = some 0
    · have h2 := hb.2 ho
      rcases hx with hx | hx
      · exact absurd ho hx
      · rw [hx] at h2; exact h2.1
    · exact (hb.1 ho).1
  exact ⟨_, _, h.write i hi hl he bk' w' _ (fun y hy => .inl ((hF y).2 hy)) (hw.mono fun b hb => ⟨hb.1, fun e => hb.2 ((hF b).2 e)⟩) (hb' S)⟩
end Go.Proofs.YtiepllpgifnloaaGreat.Vx
namespace Go.Proofs.YtiepllpgifnloaaGreat.Vx
open Go.RowKit
inductive VT (α : Type) where
  | ret (a : α)
  | fork (c : Bool) (t e : VT α)
  | must (p : Prop) (d : Decidable p) (t : VT α)
  | fail (k : Nat) (o : Option Oper)
def VT.bind {α β : Type} : VT α → (α → VT β) → VT β
  | .ret a, f => f a
  | .fork c t e, f => .fork c (t.bind f) (e.bind f)
  | .must p d t, f => .must p d (t.bind f)
  | .fail k o, _ => .fail k o
def VT.ok {α : Type} : VT α → (α → Prop) → Prop
  | .ret a, K => K a
  | .fork c t e, K => cond c (t.ok K) (e.ok K)
  | .must p _ t, K => p ∧ t.ok K
  | .fail _ _, _ => False
theorem VT.ok_bind {α β : Type} {K : β → Prop} : ∀ {t : VT α} {f : α → VT β}, (t.bind f).ok K → t.ok fun a => (f a).ok K
  | .ret a, f, h => h
  | .fork true t e, f, h => ok_bind (t := t) h
  | .fork false t e, f, h => ok_bind (t := e) h
  | .must p _ t, f, h => ⟨h.1, ok_bind h.2⟩
  | .fail _ _, f, h => h
theorem VT.ok_mono {α : Type} {K K' : α → Prop} (hk : ∀ a, K a → K' a) : ∀ {t : VT α}, t.ok K → t.ok K'
  | .ret a, h => hk a h
  | .fork true t e, h => ok_mono hk (t := t) h
  | .fork false t e, h => ok_mono hk (t := e) h
  | .must p _ t, h => ⟨h.1, ok_mono hk h.2⟩
  | .fail _ _, h => h
structure MP where
  p : Prop
  d : Decidable p
def VT.opt {α : Type} (x : Oper) : Option α → VT α
  | some a => .ret a
  | none => .fail 0 (some x)
theorem VT.ok_opt {α : Type} {K : α → Prop} {x : Oper} {o : Option α} (h : (VT.opt x o).ok K) : ∃ a, o = some a ∧ K a := by
  cases o with
  | none => exact h.elim
  | some a => exact ⟨a, rfl, h⟩
theorem VT.ok_elim {α : Type} {K : α → Prop} {G : Prop} (hg : ∀ a, K a → G) : ∀ {t : VT α}, t.ok K → G
  | .ret a, h => hg a h
  | .fork c t e, h => by
    cases c with
    | true => exact ok_elim hg (t := t) h
    | false => exact ok_elim hg (t := e) h
  | .must p _ t, h => ok_elim hg h.2
  | .fail _ _, h => h.elim
def semVal {α : Type} (P : Program) [Fast P] : Sem α → Option α
  | .pure a => some a
  | .program k => semVal P (k P)
  | _ => none
theorem semVal_run {α : Type} {P : Program} [Fast P] : ∀ {m : Sem α} {v : α}, semVal P m = some v → ∀ w, m.run P w = .ok v w
  | .pure a, v, h, w => by obtain rfl := Option.some.inj h; rfl
  | .program k, v, h, w => semVal_run (m := k P) h w
  | .load .., _, h, _ => nomatch h
  | .store .., _, h, _ => nomatch h
  | .new .., _, h, _ => nomatch h
  | .shape .., _, h, _ => nomatch h
  | .freeze .., _, h, _ => nomatch h
  | .frozen .., _, h, _ => nomatch h
  | .getObj .., _, h, _ => nomatch h
  | .setObj .., _, h, _ => nomatch h
  | .choose .., _, h, _ => nomatch h
  | .sys .., _, h, _ => nomatch h
  | .mark .., _, h, _ => nomatch h
  | .halt .., _, h, _ => nomatch h
def TR (ρ : Rho) (nt : Nat) (tm : T AV) (a : Act) : Prop := a.tmps.size = nt ∧ ∀ t v, tm.get t = some v → den ρ v (a.tmps.getD t undef)
def ev (tm : T AV) : Operand → AV
  | .tmp t => match tm.get t with | some v => v | none => .dead
  | .const v => AV.of v
  | .global _ => .dead
  | .func f => .fn f []
variable {P : Program} [Fast P] {ρ ρ' : Rho} {nt : Nat} {tm : T AV} {a : Act} {w : World}
theorem TR.mono (h : TR ρ nt tm a) (hr : ρ.le ρ') : TR ρ' nt tm a := ⟨h.1, fun t v e => den_mono hr (h.2 t v e)⟩
theorem TR.ev (h : TR ρ nt tm a) (x : Operand) : den ρ (ev tm x) (a.eval x) := by
  cases x with
  | tmp t =>
    simp only [Vx.ev, Act.eval]
    cases e : tm.get t with
    | none => simp only [den]
    | some v => exact h.2 t v e
  | const v => exact den_of v
  | global g => simp only [Vx.ev, den]
  | func f => simp only [Vx.ev, Act.eval, den]; exact ⟨[], rfl, by simp only [dens]⟩
theorem TR.put (h : TR ρ nt tm a) {d : Nat} (hd : d < nt) {v : AV} {u : Value} (hv : den ρ v u) : TR ρ nt (tm.set d v) (a.put (some d) u) := by
  refine ⟨by simp [Act.put, h.1], fun t x e => ?_⟩
  rw [T.get_put] at e
  have hs := h.1
  by_cases ht : t = d
  · subst ht
    rw [if_pos rfl] at e
    obtain rfl := Option.some.inj e
    simpa [Act.put, Array.getD_eq_getD_getElem?, Array.getElem?_setIfInBounds, hs, hd] using hv
  · rw [if_neg ht] at e
    have := h.2 t x e
    have htd : ¬ d = t := fun e => ht e.symm
    simpa [Act.put, Array.getD_eq_getD_getElem?, Array.getElem?_setIfInBounds, htd] using this
def lits : List AV → Option (List Value)
  | [] => some []
  | .lit v :: l => match lits l with | some vs => some (v :: vs) | none => none
  | _ :: _ => none
def toLit : AV → Option Value
  | .lit v => some v
  | .agg l => match lits l with | some vs => some (.agg vs.toArray) | none => none
  | _ => none
theorem lits_den : ∀ {l : List AV} {vs us : List Value}, lits l = some vs → dens ρ l us → us = vs
  | [], _, _, h, hd => by simp only [dens] at hd; obtain rfl := Option.some.inj h; exact hd
  | a :: l, vs, us, h, hd => by
    simp only [dens] at hd
    obtain ⟨v, vs', rfl, h1, h2⟩ := hd
    cases a with
    | lit u =>
      simp only [lits] at h
      cases hl : lits l with
      | none => rw [hl] at h; cases h
      | some xs =>
        rw [hl] at h
        obtain rfl := Option.some.inj h
        simp only [den] at h1
        rw [h1, lits_den hl h2]
    | _ => simp [lits] at h
theorem toLit_den {x : AV} {v u : Value} (h : toLit x = some v) (hd : den ρ x u) : u = v := by
  cases x with
  | lit z => simp only [toLit] at h; obtain rfl := Option.some.inj h; simpa only [den] using hd
  | agg l =>
    simp only [toLit] at h
    simp only [den] at hd
    obtain ⟨vs, rfl, hd⟩ := hd
    cases hl : lits l with
    | none => rw [hl] at h; cases h
    | some xs => rw [hl] at h; obtain rfl := Option.some.inj h; rw [lits_den hl hd]
  | _ => simp [toLit] at h
def Yields (P : Program) [Fast P] (ρ : Rho) (o : Oper) (a : Act) (v : AV) : Prop := ∀ w, ∃ u, (execOp a.eval o).run P w = .ok (.value u) w ∧ den ρ v u
def isNilAddr : AV → Bool
  | .lit (.pointer none) | .lit (.slice none _ _) | .lit .nilFunc => true
  | _ => false
def isAddr : AV → Bool
  | .ptr .. | .sl .. | .fn .. => true
  | _ => false
def binA (P : Program) [Fast P] (op : BinOp) (t : TypeId) (x y : Operand) (u v : AV) : Option AV :=
  match toLit u, toLit v with
  | some a, some b => match semVal P (do eqGuard op t x y a b; binOp op t a b) with
    | some r => some (AV.of r)
    | none => none
  | _, _ => none
theorem binA_ok {o : Oper} {op : BinOp} {t yt : TypeId} {x y : Operand} {v : AV} (ho : o.op = .binOp op t x y yt) (h : TR ρ nt tm a) (hb : binA P op t x y (ev tm x) (ev tm y) = some v) : Yields P ρ o a v := by
  intro w
  unfold binA at hb
  cases h1 : toLit (ev tm x) with
  | none => rw [h1] at hb; cases hb
  | some u1 =>
    cases h2 : toLit (ev tm y) with
    | none => rw [h1, h2] at hb; cases hb
    | some u2 =>
      rw [h1, h2] at hb
      simp only at hb
      have e1 := toLit_den h1 (h.ev x)
      have e2 := toLit_den h2 (h.ev y)
      cases hv : semVal P (do eqGuard op t x y u1 u2; binOp op t u1 u2) with
      | none => rw [hv] at hb; cases hb
      | some r =>
        rw [hv] at hb
        obtain rfl := Option.some.inj hb
        refine ⟨r, ?_, den_of r⟩
        have hr := semVal_run hv w
        unfold execOp
        simp only [ho, e1, e2]
        simp only [Sem.run_bind] at hr ⊢
        rw [hr]
        rfl
def unA (P : Program) [Fast P] (op : UnOp) (u : AV) : Option AV :=
  match toLit u with
  | some a => match semVal P (Op.unary op a) with
    | some r => some (AV.of r)
    | none => none
  | none => none
theorem unA_ok {o : Oper} {op : UnOp} {t : TypeId} {x : Operand} {v : AV} (ho : o.op = .unOp op t x) (h : TR ρ nt tm a) (hb : unA P op (ev tm x) = some v) : Yields P ρ o a v := by
  intro w
  unfold unA at hb
  cases h1 : toLit (ev tm x) with
  | none => rw [h1] at hb; cases hb
  | some u1 =>
    rw [h1] at hb
    have e1 := toLit_den h1 (h.ev x)
    cases hv : semVal P (Op.unary op u1) with
    | none => simp only [hv] at hb; cases hb
    | some r =>
      simp only [hv] at hb
      obtain rfl := Option.some.inj hb
      refine ⟨r, ?_, den_of r⟩
      unfold execOp
      simp only [ho, e1, Sem.run_bind, semVal_run hv w]
      rfl
def convA (P : Program) [Fast P] (s t : TypeId) (u : AV) : Option AV :=
  match toLit u with
  | some a => match semVal P (convert s t a) with
    | some r => some (AV.of r)
    | none => none
  | none => none
theorem convA_ok {o : Oper} {s t : TypeId} {x : Operand} {v : AV} (ho : o.op = .convert s t x) (h : TR ρ nt tm a) (hb : convA P s t (ev tm x) = some v) : Yields P ρ o a v := by
  intro w
  unfold convA at hb
  cases h1 : toLit (ev tm x) with
  | none => rw [h1] at hb; cases hb
  | some u1 =>
    rw [h1] at hb
    have e1 := toLit_den h1 (h.ev x)
    cases hv : semVal P (convert s t u1) with
    | none => simp only [hv] at hb; cases hb
    | some r =>
      simp only [hv] at hb
      obtain rfl := Option.some.inj hb
      refine ⟨r, ?_, den_of r⟩
      unfold execOp
      simp only [ho, e1, Sem.run_bind, semVal_run hv w]
      rfl
def indexA (P : Program) [Fast P] (t : TypeId) (u i : AV) : Option AV :=
  match toLit u, toLit i with
  | some a, some b => match semVal P (Instr.index t a b) with
    | some r => some (AV.of r)
    | none => none
  | _, _ => none
theorem indexA_ok {o : Oper} {t : TypeId} {x i : Operand} {v : AV} (ho : o.op = .index t x i) (h : TR ρ nt tm a) (hb : indexA P t (ev tm x) (ev tm i) = some v) : Yields P ρ o a v := by
  intro w
  unfold indexA at hb
  split at hb
  · rename_i u1 u2 h1 h2
    have e1 := toLit_den h1 (h.ev x)
    have e2 := toLit_den h2 (h.ev i)
    cases hv : semVal P (Instr.index t u1 u2) with
    | none => simp only [hv] at hb; cases hb
    | some r =>
      simp only [hv] at hb
      obtain rfl := Option.some.inj hb
      refine ⟨r, ?_, den_of r⟩
      unfold execOp
      simp only [ho, e1, e2, Sem.run_bind, semVal_run hv w]
      rfl
  · cases hb
theorem move_ok {o : Oper} {x : Operand} (ho : o.op = .move x ∨ o.op = .assign x) (h : TR ρ nt tm a) : Yields P ρ o a (ev tm x) := by
  intro w
  refine ⟨a.eval x, ?_, h.ev x⟩
  unfold execOp
  rcases ho with ho | ho <;> simp only [ho] <;> rfl
def boolOf : AV → Option Bool
  | .lit (.bool b) => some b
  | _ => none
theorem boolOf_den {x : AV} {b : Bool} {u : Value} (h : boolOf x = some b) (hd : den ρ x u) : u = .bool b := by
  unfold boolOf at h
  split at h
  · obtain rfl := Option.some.inj h; simpa only [den] using hd
  · cases h
def intOf : AV → Option (IntKind × Int)
  | .lit (.int k n) => some (k, n)
  | _ => none
theorem intOf_den {x : AV} {k : IntKind} {n : Int} {u : Value} (h : intOf x = some (k, n)) (hd : den ρ x u) : u = .int k n := by
  unfold intOf at h
  split at h
  · obtain ⟨rfl, rfl⟩ := Prod.mk.inj (Option.some.inj h); simpa only [den] using hd
  · cases h
theorem pick_ok {o : Oper} {c x y : Operand} {b : Bool} (ho : o.op = .pick c x y) (h : TR ρ nt tm a) (hc : boolOf (ev tm c) = some b) : Yields P ρ o a (match b with | true => ev tm x | false => ev tm y) := by
  intro w
  have e := boolOf_den hc (h.ev c)
  cases b with
  | true =>
    refine ⟨a.eval x, ?_, h.ev x⟩
    unfold execOp
    simp only [ho, e]
    rfl
  | false =>
    refine ⟨a.eval y, ?_, h.ev y⟩
    unfold execOp
    simp only [ho, e]
    rfl
theorem extract_ok {o : Oper} {x : Operand} {i : Nat} {l : List AV} {v : AV} (ho : o.op = .extract x i) (h : TR ρ nt tm a) (hx : ev tm x = .tup l) (hi : l[i]? = some v) : Yields P ρ o a v := by
  intro w
  have hd := h.ev x
  rw [hx] at hd
  simp only [den] at hd
  obtain ⟨vs, e, hd⟩ := hd
  obtain ⟨u, hu, hdu⟩ := dens_get i hd hi
  refine ⟨u, ?_, hdu⟩
  unfold execOp
  simp only [ho, e, Instr.extract, List.getElem?_toArray, hu]
  rfl
theorem isAgg_run {t : TypeId} {d : TypeDesc} (h : P.underlying t = some d) (w : World) : (isAgg t).run P w = .ok (match d with | .struct _ | .array _ _ => true | _ => false) w := by
  have _i : Fast P := inferInstance
  unfold isAgg
  rw [Sem.run_bind, run_underlying h]
  cases d <;> rfl
def aggT (P : Program) [Fast P] (t : TypeId) : Option Bool := match undF P t with
  | some (.struct _) | some (.array _ _) => some true
  | some _ => some false
  | none => none
theorem aggT_run {t : TypeId} {b : Bool} (h : aggT P t = some b) (w : World) : (isAgg t).run P w = .ok b w := by
  unfold aggT at h
  cases hu : undF P t with
  | none => rw [hu] at h; cases h
  | some d => rw [hu] at h; rw [isAgg_run (undF_ok hu) w]; cases d <;> simp_all
def sizeT (P : Program) [Fast P] (t : TypeId) : Option Nat := match infoF P t with | some i => some i.size | none => none
theorem info_run {t : TypeId} {i : TypeInfo} (h : P.info? t = some i) (w : World) : (typeInfo t).run P w = .ok i w := by
  have _i : Fast P := inferInstance
  simp [typeInfo, Sem.run_bind, h]
theorem sizeT_run {t : TypeId} {n : Nat} (h : sizeT P t = some n) (w : World) : (sizeOf t).run P w = .ok n w := by
  unfold sizeT at h
  cases hi : infoF P t with
  | none => rw [hi] at h; cases h
  | some i =>
    rw [hi] at h
    obtain rfl := Option.some.inj h
    simp [sizeOf, Sem.run_bind, info_run (infoF_ok hi)]
def partA (P : Program) [Fast P] (t : TypeId) (l : List AV) (off : Nat) : Option AV :=
  match aggT P t with
  | some true => match sizeT P t with
    | some n => some (.agg ((l.drop off).take n))
    | none => none
  | some false => l[off]?
  | none => none
theorem partA_ok {t : TypeId} {l : List AV} {vs : List Value} {off : Nat} {v : AV} (h : partA P t l off = some v) (hd : dens ρ l vs) (w : World) : ∃ u, (part t vs.toArray off).run P w = .ok u w ∧ den ρ v u := by
  unfold partA at h
  unfold part
  cases ha : aggT P t with
  | none => rw [ha] at h; cases h
  | some b =>
    simp only [Sem.run_bind, aggT_run ha, Result.andThen_ok]
    cases b with
    | true =>
      simp only [ha] at h
      cases hs : sizeT P t with
      | none => rw [hs] at h; cases h
      | some n =>
        rw [hs] at h
        obtain rfl := Option.some.inj h
        simp only [if_true, Sem.run_bind, sizeT_run hs, Result.andThen_ok]
        refine ⟨_, rfl, ?_⟩
        simp only [den]
        refine ⟨(vs.drop off).take n, ?_, dens_take n (dens_drop off hd)⟩
        simp
    | false =>
      simp only [ha] at h
      obtain ⟨u, hu, hdu⟩ := dens_get off hd h
      refine ⟨u, ?_, hdu⟩
      simp [hu]
def fieldA (P : Program) [Fast P] (t : TypeId) (f : Nat) (x : AV) : Option AV :=
  match undF P t, x with
  | some (.struct fs), .agg l => match fs[f]? with
    | some fd => partA P fd.type l fd.offset
    | none => none
  | _, _ => none
theorem fieldA_ok {o : Oper} {t : TypeId} {x : Operand} {f : Nat} {v : AV} (ho : o.op = .field t x f) (h : TR ρ nt tm a) (hf : fieldA P t f (ev tm x) = some v) : Yields P ρ o a v := by
  intro w
  have hd := h.ev x
  unfold fieldA at hf
  split at hf
  · rename_i fs l hu hx
    rw [hx] at hd
    simp only [den] at hd
    obtain ⟨vs, e, hd⟩ := hd
    cases hfd : fs[f]? with
    | none => rw [hfd] at hf; cases hf
    | some fd =>
      rw [hfd] at hf
      obtain ⟨u, hr, hu'⟩ := partA_ok hf hd w
      refine ⟨u, ?_, hu'⟩
      unfold execOp
      simp only [ho, e, Instr.field, asAgg, Sem.run_bind, run_underlying (undF_ok hu), Result.andThen_ok, hfd, Sem.run_pure, hr]
  · cases hf
def fieldAddrA (P : Program) [Fast P] (t : TypeId) (f : Nat) (x : AV) : Option AV :=
  match undF P t, x with
  | some (.struct fs), .ptr b off => match fs[f]? with
    | some fd => match sizeT P fd.type with
      | some (_ + 1) => some (.ptr b (off + fd.offset))
      | _ => none
    | none => none
  | _, _ => none
theorem fieldAddrA_ok {o : Oper} {t : TypeId} {x : Operand} {f : Nat} {v : AV} (ho : o.op = .fieldAddr t x f) (h : TR ρ nt tm a) (hf : fieldAddrA P t f (ev tm x) = some v) : Yields P ρ o a v := by
  intro w
  have hd := h.ev x
  unfold fieldAddrA at hf
  split at hf
  · rename_i fs b off hu hx
    rw [hx] at hd
    simp only [den] at hd
    obtain ⟨y, c, hy, e⟩ := hd
    cases hfd : fs[f]? with
    | none => rw [hfd] at hf; cases hf
    | some fd =>
      rw [hfd] at hf
      simp only at hf
      cases hs : sizeT P fd.type with
      | none => rw [hs] at hf; cases hf
      | some n =>
        cases n with
        | zero => rw [hs] at hf; cases hf
        | succ n =>
          rw [hs] at hf
          obtain rfl := Option.some.inj hf
          refine ⟨.pointer (some ⟨y, off + fd.offset, none⟩), ?_, by simp only [den]; exact ⟨y, c, hy, rfl⟩⟩
          unfold execOp
          simp [ho, e, Instr.fieldAt, Sem.run_bind, run_underlying (undF_ok hu), hfd, Instr.sureAddr, fieldPlace, sizeT_run hs, add_lit]
  · cases hf
def indexAddrA (P : Program) [Fast P] (t : TypeId) (x i : AV) : Option AV :=
  match undF P t, x, intOf i with
  | some (.slice e), .sl b off len _ _, some (_, .ofNat k) => match Nat.blt k len, sizeT P e with
    | true, some s => some (.ptr b (Nat.add off (Nat.mul k s)))
    | _, _ => none
  | some (.array len e), .ptr b off, some (_, .ofNat k) => match Nat.blt k len, sizeT P e with
    | true, some s => some (.ptr b (Nat.add off (Nat.mul k s)))
    | _, _ => none
  | _, _, _ => none
theorem indexAddrA_ok {o : Oper} {t : TypeId} {x i : Operand} {v : AV} (ho : o.op = .indexAddr t x i) (h : TR ρ nt tm a) (hf : indexAddrA P t (ev tm x) (ev tm i) = some v) : Yields P ρ o a v := by
  intro w
  have hd := h.ev x
  unfold indexAddrA at hf
  split at hf
  · rename_i e b off len c op ik k hu hx hi
    rw [hx] at hd
    simp only [den] at hd
    obtain ⟨y, c', hy, ex, _⟩ := hd
    have ei := intOf_den hi (h.ev i)
    split at hf
    · rename_i s hb hs
      obtain rfl := Option.some.inj hf
      have hk : k < len := Nat.le_of_ble_eq_true hb
      refine ⟨.pointer (some ⟨y, off + k * s, none⟩), ?_, by simp only [den]; exact ⟨y, c', hy, rfl⟩⟩
      unfold execOp
      simp [ho, ex, ei, Instr.indexAt, asIntOf, Sem.run_bind, run_underlying (undF_ok hu), sizeT_run hs, add_lit, hk]
    · cases hf
  · rename_i len e b off ik k hu hx hi
    rw [hx] at hd
    simp only [den] at hd
    obtain ⟨y, c', hy, ex⟩ := hd
    have ei := intOf_den hi (h.ev i)
    split at hf
    · rename_i s hb hs
      obtain rfl := Option.some.inj hf
      have hk : k < len := Nat.le_of_ble_eq_true hb
      refine ⟨.pointer (some ⟨y, off + k * s, none⟩), ?_, by simp only [den]; exact ⟨y, c', hy, rfl⟩⟩
      unfold execOp
      simp [ho, ex, ei, Instr.indexAt, Instr.sureAddr, asIntOf, Sem.run_bind, run_underlying (undF_ok hu), sizeT_run hs, add_lit, hk]
    · cases hf
  · cases hf
def nilCheckA : AV → Option AV
  | .ptr b off => some (.ptr b off)
  | .fn f l => some (.fn f l)
  | .ep i k p sz x j => some (.ep i k p sz x j)
  | _ => none
theorem nilCheckA_ok {o : Oper} {x : Operand} {v : AV} (ho : o.op = .nilCheck x) (h : TR ρ nt tm a) (hf : nilCheckA (ev tm x) = some v) : Yields P ρ o a v := by
  intro w
  have hd := h.ev x
  refine ⟨a.eval x, ?_, ?_⟩
  · unfold nilCheckA at hf
    split at hf
    · rename_i hx
      rw [hx] at hd
      simp only [den] at hd
      obtain ⟨y, c, hy, e⟩ := hd
      unfold execOp
      simp only [ho, e]
      rfl
    · rename_i hx
      rw [hx] at hd
      simp only [den] at hd
      obtain ⟨vs, e, hd⟩ := hd
      unfold execOp
      simp only [ho, e]
      rfl
    · rename_i hx
      rw [hx] at hd
      simp only [den] at hd
      obtain ⟨_, _, _, _, _, _, e⟩ := hd
      unfold execOp
      simp only [ho, e]
      rfl
    · cases hf
  · have : v = ev tm x := by
      unfold nilCheckA at hf
      split at hf
      · rename_i hx; rw [hx]; exact (Option.some.inj hf).symm
      · rename_i hx; rw [hx]; exact (Option.some.inj hf).symm
      · rename_i hx; rw [hx]; exact (Option.some.inj hf).symm
      · cases hf
    rw [this]; exact hd
theorem evs_den (h : TR ρ nt tm a) : ∀ (xs : List Operand), dens ρ (xs.map (ev tm)) (xs.map a.eval)
  | [] => by simp [dens]
  | x :: xs => by simp only [List.map_cons, dens]; exact ⟨_, _, rfl, h.ev x, evs_den h xs⟩
theorem makeFunc_ok {o : Oper} {f : FuncId} {caps : Array Operand} (ho : o.op = .makeFunc (.func f) #[] caps) (h : TR ρ nt tm a) : Yields P ρ o a (.fn f (caps.toList.map (ev tm))) := by
  intro w
  refine ⟨.func (.func f) #[] (caps.map a.eval), ?_, ?_⟩
  · unfold execOp
    simp only [ho, Instr.makeFunc, Array.map_empty]
    rfl
  · simp only [den]
    refine ⟨caps.toList.map a.eval, by rw [← Array.toList_map], evs_den h _⟩
theorem makeBound_ok {o : Oper} {f : FuncId} {first : Array Operand} (ho : o.op = .makeFunc (.func f) first #[]) (h : TR ρ nt tm a) : Yields P ρ o a (.bm f (first.toList.map (ev tm))) := by
  intro w
  refine ⟨.func (.func f) (first.map a.eval) #[], ?_, ?_⟩
  · unfold execOp
    simp only [ho, Instr.makeFunc, Array.map_empty]
    rfl
  · simp only [den]
    refine ⟨first.toList.map a.eval, by rw [← Array.toList_map], evs_den h _⟩
end Go.Proofs.YtiepllpgifnloaaGreat.Vx
namespace Go.Proofs.YtiepllpgifnloaaGreat.Vx
open Go.RowKit
variable {P : Program} [Fast P] {ρ ρ' : Rho} {nt : Nat} {tm : T AV} {a : Act} {w : World}
def spliceA (l : List AV) (off : Nat) (m : List AV) : List AV := l.take off ++ (m ++ l.drop (Nat.add off m.length))
def fillA (place : Nat → Option (Nat × Nat)) : List AV → List (Nat × AV) → Option (List AV)
  | cells, [] => some cells
  | cells, (i, v) :: rest => match place i with
    | none => none
    | some (off, size) => match v.flat, Nat.beq v.cells.length size, Nat.ble (Nat.add off v.cells.length) cells.length with
      | true, true, true => fillA place (spliceA cells off v.cells) rest
      | _, _, _ => none
theorem foldl_set : ∀ (m : List Value) (k off : Nat) (l : Array Value), off + k + m.length ≤ l.size →
    (m.zipIdx k).foldl (fun cs (x : Value × Nat) => cs.setIfInBounds (off + x.2) x.1) l = (l.toList.take (off + k) ++ (m ++ l.toList.drop (off + k + m.length))).toArray
  | [], k, off, l, h => by simp
  | x :: m, k, off, l, h => by
    simp only [List.zipIdx_cons, List.foldl_cons]
    rw [foldl_set m (k + 1) off _ (by simp at h ⊢; omega)]
    have e := list_seg_step l.toList (off + k) x m (by simp at h ⊢; omega)
    simp only [Array.toList_setIfInBounds, List.length_cons]
    rw [← List.append_assoc, ← Nat.add_assoc off k 1, e, List.append_assoc]
theorem fillA_ok {place : Nat → Option (Nat × Nat)} : ∀ {parts : List (Nat × AV)} {ps : List (Nat × Value)} {cells : List AV} {cs : List Value} {r : List AV},
    dens ρ cells cs → (ps.map Prod.fst = parts.map Prod.fst) → dens ρ (parts.map Prod.snd) (ps.map Prod.snd) → fillA place cells parts = some r → ∃ rs : List Value, Instr.fill place cs.toArray ps = some rs.toArray ∧ dens ρ r rs
  | [], ps, cells, cs, r, hc, hi, hp, h => by
    obtain rfl : ps = [] := by simpa using hi
    obtain rfl := Option.some.inj h
    exact ⟨cs, rfl, hc⟩
  | (i, v) :: parts, ps, cells, cs, r, hc, hi, hp, h => by
    cases ps with
    | nil => simp at hi
    | cons p ps =>
      obtain ⟨j, u⟩ := p
      simp only [List.map_cons, List.cons.injEq] at hi
      obtain ⟨rfl, hi⟩ := hi
      simp only [List.map_cons, dens] at hp
      obtain ⟨u', us', he, hv, hp⟩ := hp
      obtain ⟨rfl, rfl⟩ := List.cons.inj he
      simp only [fillA] at h
      cases hpl : place j with
      | none => rw [hpl] at h; cases h
      | some os =>
        obtain ⟨off, size⟩ := os
        rw [hpl] at h
        simp only at h
        split at h
        · rename_i hf hs hb
          have hs := Nat.eq_of_beq_eq_true hs
          have hb : off + v.cells.length ≤ cells.length := Nat.le_of_ble_eq_true hb
          obtain ⟨hcv, _⟩ := den_cells hv hf
          have hl := dens_length hcv
          have hlc := dens_length hc
          have hn : dens ρ (spliceA cells off v.cells) (cs.take off ++ (u.cells.toList ++ cs.drop (off + v.cells.length))) := dens_append (dens_take off hc) (dens_append hcv (dens_drop _ hc))
          obtain ⟨rs, hr, hd⟩ := fillA_ok hn hi hp h
          refine ⟨rs, ?_, hd⟩
          have hsz : u.cells.size = v.cells.length := by rw [← hl]; simp
          simp only [Instr.fill, hpl]
          rw [if_neg (by simp only [List.size_toArray, Bool.or_eq_true, decide_eq_true_eq, not_or]; exact ⟨by omega, by omega⟩)]
          rw [← hr]
          congr 1
          rw [← Array.foldl_toList, Array.toList_zipIdx]
          rw [foldl_set u.cells.toList 0 off cs.toArray (by simp; omega)]
          simp only [Nat.add_zero, Array.length_toList]
          rw [hsz]
        · cases h
def placesA (P : Program) [Fast P] : List Field → Option (List (Nat × Nat))
  | [] => some []
  | f :: fs => match infoF P f.type, placesA P fs with
    | some i, some l => some ((f.offset, i.size) :: l)
    | _, _ => none
theorem placesA_eq : ∀ (fs : List Field) {l : List (Nat × Nat)}, placesA P fs = some l → fs.mapM (fun f => (P.info? f.type).map fun i => (f.offset, i.size)) = some l
  | [], l, h => by simp only [placesA] at h; simpa using h
  | f :: fs, l, h => by
    simp only [placesA] at h
    cases hi : infoF P f.type with
    | none => rw [hi] at h; cases h
    | some i =>
      cases hr : placesA P fs with
      | none => rw [hi, hr] at h; cases h
      | some l' =>
        rw [hi, hr] at h
        obtain rfl := Option.some.inj h
        simp [List.mapM_cons, infoF_ok hi, placesA_eq fs hr]
def zeroA (P : Program) [Fast P] (t : TypeId) : Option (List AV) := match infoF P t with
  | some i => match i.zero with
    | some z => some (z.cells.toList.map AV.lit)
    | none => none
  | none => none
def getAt {α : Type} : List α → Nat → Option α
  | [], _ => none
  | x :: l, k => match Nat.beq k 0 with
    | true => some x
    | false => getAt l (Nat.sub k 1)
theorem getAt_eq {α : Type} : ∀ (l : List α) (k : Nat), getAt l k = l[k]?
  | [], k => by simp [getAt]
  | x :: l, k => by
    simp only [getAt]
    cases k with
    | zero => simp
    | succ k =>
      rw [beq_ff (by omega : k + 1 ≠ 0)]
      simp only
      rw [show Nat.sub (k + 1) 1 = k from rfl, getAt_eq l k]
      simp
def buildA (P : Program) [Fast P] (t : TypeId) (parts : List (Nat × AV)) : Option AV :=
  match undF P t, zeroA P t with
  | some (.struct fs), some z => match placesA P fs.toList with
    | some pl => match fillA (getAt pl) z parts with
      | some l => some (.agg l)
      | none => none
    | none => none
  | some (.array _ e), some z => match sizeT P e with
    | some s => match fillA (fun i => some (Nat.mul i s, s)) z parts with
      | some l => some (.agg l)
      | none => none
    | none => none
  | _, _ => none
theorem buildA_ok {o : Oper} {t : TypeId} {parts : Array (Nat × Operand)} {v : AV} (ho : o.op = .build t parts) (h : TR ρ nt tm a) (hf : buildA P t (parts.toList.map fun p => (p.1, ev tm p.2)) = some v) : Yields P ρ o a v := by
  intro w
  unfold buildA at hf
  split at hf
  · rename_i fs z hu hz
    cases hp : placesA P fs.toList with
    | none => rw [hp] at hf; cases hf
    | some pl =>
      rw [hp] at hf
      simp only at hf
      cases hl : fillA (getAt pl) z (parts.toList.map fun p => (p.1, ev tm p.2)) with
      | none => rw [hl] at hf; cases hf
      | some l =>
        rw [hl] at hf
        obtain rfl := Option.some.inj hf
        unfold zeroA at hz
        cases hi : infoF P t with
        | none => rw [hi] at hz; cases hz
        | some i =>
          cases hzz : i.zero with
          | none => rw [hi] at hz; simp only [hzz] at hz; cases hz
          | some zz =>
            rw [hi] at hz
            simp only [hzz] at hz
            obtain rfl := Option.some.inj hz
            obtain ⟨rs, hr, hd⟩ := fillA_ok (place := getAt pl) (ps := parts.toList.map fun p => (p.1, a.eval p.2)) (dens_map_lit _) (by simp) (by
              simp only [List.map_map]
              have := evs_den h (parts.toList.map Prod.snd)
              simpa [List.map_map, Function.comp_def] using this) hl
            refine ⟨.agg rs.toArray, ?_, by simp only [den]; exact ⟨rs, rfl, hd⟩⟩
            have hb : P.built t (parts.map fun p => (p.1, a.eval p.2)).toList = some rs.toArray := by
              unfold Program.built
              rw [(infoF_ok hi), (undF_ok hu)]
              simp only [hzz, placesA_eq _ hp]
              rw [← hr]
              have : (fun x => pl.toArray[x]?) = getAt pl := by funext k; simp [getAt_eq]
              rw [this]
              simp
            unfold execOp
            simp only [ho, Sem.run_bind, run_build w t _ _ hb, Result.andThen_ok]
            rfl
  · rename_i ln e z hu hz
    cases hse : sizeT P e with
    | none => rw [hse] at hf; cases hf
    | some s =>
      rw [hse] at hf
      simp only at hf
      cases hl : fillA (fun i => some (Nat.mul i s, s)) z (parts.toList.map fun p => (p.1, ev tm p.2)) with
      | none => rw [hl] at hf; cases hf
      | some l =>
        rw [hl] at hf
        obtain rfl := Option.some.inj hf
        unfold zeroA at hz
        cases hi : infoF P t with
        | none => rw [hi] at hz; cases hz
        | some i =>
          cases hzz : i.zero with
          | none => rw [hi] at hz; simp only [hzz] at hz; cases hz
          | some zz =>
            rw [hi] at hz
            simp only [hzz] at hz
            obtain rfl := Option.some.inj hz
            obtain ⟨rs, hr, hd⟩ := fillA_ok (place := fun i => some (Nat.mul i s, s)) (ps := parts.toList.map fun p => (p.1, a.eval p.2)) (dens_map_lit _) (by simp) (by
              simp only [List.map_map]
              have := evs_den h (parts.toList.map Prod.snd)
              simpa [List.map_map, Function.comp_def] using this) hl
            refine ⟨.agg rs.toArray, ?_, by simp only [den]; exact ⟨rs, rfl, hd⟩⟩
            have hb : P.built t (parts.map fun p => (p.1, a.eval p.2)).toList = some rs.toArray := by
              unfold sizeT at hse
              cases hie : infoF P e with
              | none => rw [hie] at hse; cases hse
              | some ie =>
                rw [hie] at hse
                obtain rfl := Option.some.inj hse
                unfold Program.built
                rw [(infoF_ok hi), (undF_ok hu)]
                simp only [hzz, infoF_ok hie]
                rw [← hr]
                simp
            unfold execOp
            simp only [ho, Sem.run_bind, run_build w t _ _ hb, Result.andThen_ok]
            rfl
  · cases hf
def optInt (tm : T AV) (d : Nat) : Option Operand → Option Nat
  | none => some d
  | some x => match intOf (ev tm x) with
    | some (_, .ofNat n) => some n
    | _ => none
theorem optInt_run (h : TR ρ nt tm a) {d n y : Nat} {x : Option Operand} {code : BoundsCode} (hx : optInt tm d x = some n) (hy : n ≤ y) (w : World) :
    (x = none ∧ n = d) ∨ (∃ x' k, x = some x' ∧ a.eval x' = .int k (n : Int) ∧ (Instr.sliceBound (a.eval x') y code).run P w = .ok n w) := by
  have _i : Fast P := inferInstance
  cases x with
  | none => exact .inl ⟨rfl, (Option.some.inj hx).symm⟩
  | some x' =>
    unfold optInt at hx
    simp only at hx
    split at hx
    · rename_i k m hi
      obtain rfl := Option.some.inj hx
      have e := intOf_den hi (h.ev x')
      refine .inr ⟨x', k, rfl, e, ?_⟩
      rw [e]
      simp [Instr.sliceBound, asIntOf, Sem.run_bind, hy]
    · cases hx
def capMin (op : Bool) (len cap : Nat) : Nat := match op with | true => len | false => cap
def sliceA (P : Program) [Fast P] (tm : T AV) (t : TypeId) (x : AV) (lo hi mx : Option Operand) : Option AV :=
  match undF P t, x with
  | some (.slice e), .sl b off len cap op =>
    match optInt tm 0 lo, optInt tm len hi, sizeT P e with
    | some l, some h, some s =>
      match mx with
      | some m => match hi, optInt tm 0 (some m) with
        | some _, some m => match Nat.ble l h && (Nat.ble h m && Nat.ble m (capMin op len cap)) with
          | true => match Nat.beq m l with
            | true => some (.sl b off (Nat.sub h l) (Nat.sub m l) false)
            | false => some (.sl b (Nat.add off (Nat.mul l s)) (Nat.sub h l) (Nat.sub m l) false)
          | false => none
        | _, _ => none
      | none => match Nat.ble l h && Nat.ble h (capMin op len cap) with
        | true => match op with
          | true => match Nat.beq l 0 with
            | true => some (.sl b off h cap true)
            | false => match Nat.blt l h with
              | true => some (.sl b (Nat.add off (Nat.mul l s)) (Nat.sub h l) (Nat.add cap l) true)
              | false => some .emp
          | false => match Nat.beq cap l with
            | true => some (.sl b off (Nat.sub h l) (Nat.sub cap l) false)
            | false => some (.sl b (Nat.add off (Nat.mul l s)) (Nat.sub h l) (Nat.sub cap l) false)
        | false => none
    | _, _, _ => none
  | some _, .lit v => match mx with
    | some _ => none
    | none => match lo, hi with
      | none, none => match semVal P (Instr.sliceAt t v none none none) with | some r => some (AV.of r) | none => none
      | some l, none => match toLit (ev tm l) with
        | some l => match semVal P (Instr.sliceAt t v (some l) none none) with | some r => some (AV.of r) | none => none
        | none => none
      | none, some h => match toLit (ev tm h) with
        | some h => match semVal P (Instr.sliceAt t v none (some h) none) with | some r => some (AV.of r) | none => none
        | none => none
      | some l, some h => match toLit (ev tm l), toLit (ev tm h) with
        | some l, some h => match semVal P (Instr.sliceAt t v (some l) (some h) none) with | some r => some (AV.of r) | none => none
        | _, _ => none
  | _, _ => none
theorem lenA_le {op : Bool} {len cap c h : Nat} (h1 : len ≤ (if op then c - cap else cap)) (h2 : h ≤ capMin op len cap) : h ≤ (if op then c - cap else cap) := by
  cases op <;> simp only [capMin, if_true, Bool.false_eq_true, if_false] at * <;> omega
theorem sliceA_ok {o : Oper} {t : TypeId} {x : Operand} {lo hi mx : Option Operand} {v : AV} (ho : o.op = .slice t x lo hi mx) (h : TR ρ nt tm a) (hf : sliceA P tm t (ev tm x) lo hi mx = some v) : Yields P ρ o a v := by
  intro w
  have hd := h.ev x
  unfold sliceA at hf
  split at hf
  · rename_i e b off len cap op hu hx
    rw [hx] at hd
    simp only [den] at hd
    obtain ⟨y, c, hy, ex, hoc, hlen⟩ := hd
    split at hf
    · rename_i l hh s hl hhi hs
      -- the bounds
      have key : ∀ (m : Nat), l ≤ hh → hh ≤ m → (Instr.sliceBounds true len (if op then c.n - cap else cap) (lo.map a.eval) (hi.map a.eval) (mx.map a.eval)).run P w = .ok (l, hh, m) w →
          (execOp a.eval o).run P w = .ok (.value (.slice (some (if m = l then ⟨y, off, none⟩ else ⟨y, off + l * s, none⟩)) (hh - l) (m - l))) w := by
        intro m _ _ hb
        unfold execOp
        simp only [ho, ex, Instr.sliceAt, Sem.run_bind, run_underlying (undF_ok hu), Result.andThen_ok, Instr.slice, hb, sizeT_run hs]
        by_cases hml : m = l
        · simp [hml]
        · simp [hml, add_lit]
      have low : l ≤ hh → ∀ code, (match lo.map a.eval with | some v => Instr.sliceBound v hh code | none => pure 0 : Sem Nat).run P w = .ok l w := by
        intro hlh code
        rcases optInt_run (P := P) (code := code) h hl hlh w with ⟨rfl, rfl⟩ | ⟨x', k, rfl, _, hr⟩
        · rfl
        · exact hr
      cases mx with
      | some mxo =>
        simp only at hf
        split at hf
        · rename_i hio m hm
          split at hf
          · rename_i bb
            simp only [Bool.and_eq_true] at bb
            have b1 := Nat.le_of_ble_eq_true bb.1
            have b2 := Nat.le_of_ble_eq_true bb.2.1
            have b3 := lenA_le hlen (Nat.le_of_ble_eq_true bb.2.2)
            have hbounds : (Instr.sliceBounds true len (if op then c.n - cap else cap) (lo.map a.eval) ((some hio).map a.eval) ((some mxo).map a.eval)).run P w = .ok (l, hh, m) w := by
              rcases optInt_run (P := P) (code := .slice3Acap) h hm b3 w with ⟨hc, _⟩ | ⟨x1, k1, hx1, _, r1⟩
              · cases hc
              rcases optInt_run (P := P) (code := .slice3B) h hhi b2 w with ⟨hc, _⟩ | ⟨x2, k2, hx2, _, r2⟩
              · cases hc
              obtain rfl := Option.some.inj hx1
              obtain rfl := Option.some.inj hx2
              have r3 := low b1 .slice3C
              cases lo with
              | none => simp [Instr.sliceBounds, Sem.run_bind, r1, r2]; simpa using r3
              | some lo => simp only [Option.map_some] at r3; simp [Instr.sliceBounds, Sem.run_bind, r1, r2, r3]
            have hr := key m b1 b2 hbounds
            split at hf
            · rename_i hml
              obtain rfl := Option.some.inj hf
              have hml := Nat.eq_of_beq_eq_true hml
              rw [if_pos hml] at hr
              refine ⟨_, hr, ?_⟩
              simp only [den, Bool.false_eq_true, if_false]
              exact ⟨y, c, hy, rfl, fun e => e.elim, Nat.sub_le_sub_right b2 l⟩
            · rename_i hml
              obtain rfl := Option.some.inj hf
              have hml := Nat.ne_of_beq_eq_false hml
              rw [if_neg hml] at hr
              refine ⟨_, hr, ?_⟩
              simp only [den, Bool.false_eq_true, if_false]
              exact ⟨y, c, hy, rfl, fun e => e.elim, Nat.sub_le_sub_right b2 l⟩
          · cases hf
        · cases hf
      | none =>
        simp only at hf
        have hbounds : l ≤ hh → hh ≤ (if op then c.n - cap else cap) → (Instr.sliceBounds true len (if op then c.n - cap else cap) (lo.map a.eval) (hi.map a.eval) ((none : Option Operand).map a.eval)).run P w = .ok (l, hh, (if op then c.n - cap else cap)) w := by
          intro b1 b2
          have r3 := low b1 .sliceB
          rcases optInt_run (P := P) (code := .sliceAcap) h hhi b2 w with ⟨rfl, rfl⟩ | ⟨x2, k2, rfl, _, r2⟩
          · cases lo with
            | none => simp [Instr.sliceBounds, Sem.run_bind]; simpa using r3
            | some lo => simp only [Option.map_some] at r3; simp [Instr.sliceBounds, Sem.run_bind, r3]
          · cases lo with
            | none => simp [Instr.sliceBounds, Sem.run_bind, r2]; simpa using r3
            | some lo => simp only [Option.map_some] at r3; simp [Instr.sliceBounds, Sem.run_bind, r2, r3]
        split at hf
        · rename_i bb
          simp only [Bool.and_eq_true] at bb
          have b1 := Nat.le_of_ble_eq_true bb.1
          have b2 := lenA_le hlen (Nat.le_of_ble_eq_true bb.2)
          have hr := key _ b1 b2 (hbounds b1 b2)
          cases op with
          | true =>
            simp only [if_true] at hr b2 hlen
            have hc := hoc rfl
            simp only at hf
            split at hf
            · rename_i b3
              have hl0 := Nat.eq_of_beq_eq_true b3
              subst hl0
              obtain rfl := Option.some.inj hf
              simp only [Nat.zero_mul, Nat.add_zero, ite_self, Nat.sub_zero] at hr
              refine ⟨_, hr, ?_⟩
              simp only [den, if_true]
              exact ⟨y, c, hy, rfl, fun _ => hc, b2⟩
            · split at hf
              · rename_i b4
                have b4 : l < hh := Nat.le_of_ble_eq_true b4
                obtain rfl := Option.some.inj hf
                rw [if_neg (by omega)] at hr
                refine ⟨_, hr, ?_⟩
                simp only [den, if_true]
                refine ⟨y, c, hy, ?_, fun _ => ?_, ?_⟩
                · rw [show c.n - cap - l = c.n - (Nat.add cap l) from Nat.sub_sub c.n cap l]; rfl
                · show cap + l ≤ c.n; omega
                · show hh - l ≤ c.n - (cap + l); omega
              · rename_i b4
                have b4 : ¬ l < hh := fun e => by rw [show Nat.blt l hh = true from Nat.ble_eq_true_of_le e] at b4; cases b4
                obtain rfl := Option.some.inj hf
                refine ⟨_, hr, ?_⟩
                simp only [den]
                exact ⟨_, _, by rw [show hh - l = 0 by omega]⟩
          | false =>
            simp only [Bool.false_eq_true, if_false] at hr b2 hlen
            simp only at hf
            split at hf
            · rename_i hml
              obtain rfl := Option.some.inj hf
              have hml := Nat.eq_of_beq_eq_true hml
              rw [if_pos hml] at hr
              refine ⟨_, hr, ?_⟩
              simp only [den, Bool.false_eq_true, if_false]
              exact ⟨y, c, hy, rfl, fun e => e.elim, Nat.sub_le_sub_right b2 l⟩
            · rename_i hml
              obtain rfl := Option.some.inj hf
              have hml := Nat.ne_of_beq_eq_false hml
              rw [if_neg hml] at hr
              refine ⟨_, hr, ?_⟩
              simp only [den, Bool.false_eq_true, if_false]
              exact ⟨y, c, hy, rfl, fun e => e.elim, Nat.sub_le_sub_right b2 l⟩
        · cases hf
    · cases hf
  · rename_i d vl hu hx
    rw [hx] at hd
    simp only [den] at hd
    have fin : ∀ {r : Value} {l h' : Option Value}, lo.map a.eval = l → hi.map a.eval = h' → mx = none → semVal P (Instr.sliceAt t vl l h' none) = some r → ∃ u, (execOp a.eval o).run P w = .ok (.value u) w ∧ den ρ (AV.of r) u := by
      intro r l h' e1 e2 e3 hv
      subst e3
      refine ⟨r, ?_, den_of r⟩
      unfold execOp
      simp only [ho, hd, e1, e2, Option.map_none, Sem.run_bind, semVal_run hv w]
      rfl
    cases mx with
    | some _ => cases hf
    | none =>
      simp only at hf
      cases lo with
      | none =>
        cases hi with
        | none =>
          simp only at hf
          split at hf
          · rename_i r hv; obtain rfl := Option.some.inj hf; exact fin rfl rfl rfl hv
          · cases hf
        | some hi =>
          simp only at hf
          split at hf
          · rename_i hv' hl
            split at hf
            · rename_i r hv; obtain rfl := Option.some.inj hf; exact fin rfl (by rw [Option.map_some, toLit_den hl (h.ev hi)]) rfl hv
            · cases hf
          · cases hf
      | some lo =>
        cases hi with
        | none =>
          simp only at hf
          split at hf
          · rename_i hv' hl
            split at hf
            · rename_i r hv; obtain rfl := Option.some.inj hf; exact fin (by rw [Option.map_some, toLit_den hl (h.ev lo)]) rfl rfl hv
            · cases hf
          · cases hf
        | some hi =>
          simp only at hf
          split at hf
          · rename_i lv' hv' hl1 hl2
            split at hf
            · rename_i r hv; obtain rfl := Option.some.inj hf; exact fin (by rw [Option.map_some, toLit_den hl1 (h.ev lo)]) (by rw [Option.map_some, toLit_den hl2 (h.ev hi)]) rfl hv
            · cases hf
          · cases hf
  · cases hf
def nilFit : TypeDesc → AV → AV → Bool
  | .pointer _, .ptr .., .lit (.pointer none) => true
  | .pointer _, .ep .., .lit (.pointer none) => true
  | .slice _, .sl .., .lit (.slice none _ _) => true
  | .func _ _ _, .fn .., .lit .nilFunc => true
  | _, _, _ => false
def nilCmpA (P : Program) [Fast P] (op : BinOp) (t : TypeId) (u v : AV) : Option AV :=
  match undF P t with
  | some d => match nilFit d u v || nilFit d v u, op with
    | true, .eql => some (.lit (.bool false))
    | true, .neq => some (.lit (.bool true))
    | _, _ => none
  | none => none
theorem equal_eq (t : TypeId) (x y : Value) : Op.equal t x y = Op.equalIn ((Op.maxDepth - 1) + 1) t x y := rfl
theorem nilFit_run {d : TypeDesc} {t : TypeId} {u v : AV} {x y : Value} (hu : P.underlying t = some d) (hf : nilFit d u v = true) (hx : den ρ u x) (hy : den ρ v y) (w : World) :
    ((Op.equal t x y).run P w = .ok false w ∧ (Op.equal t y x).run P w = .ok false w) ∧ (∀ op, op = .eql ∨ op = .neq → (∀ e f, (eqGuard op t e f x y).run P w = .ok () w) ∧ (∀ e f, (eqGuard op t e f y x).run P w = .ok () w)) ∧ (∀ op, op = .eql ∨ op = .neq → binOp op t x y = (if op = .eql then (do pure (.bool (← Op.equal t x y))) else (do pure (.bool (!(← Op.equal t x y))))) ∧ binOp op t y x = (if op = .eql then (do pure (.bool (← Op.equal t y x))) else (do pure (.bool (!(← Op.equal t y x)))))) := by
  have _i : Fast P := inferInstance
  unfold nilFit at hf
  split at hf
  · simp only [den] at hx hy
    obtain ⟨z, c, _, rfl⟩ := hx
    subst hy
    refine ⟨⟨?_, ?_⟩, fun op ho => ⟨?_, ?_⟩, fun op ho => ?_⟩
    · rw [equal_eq]; simp only [Op.equalIn, Sem.run_bind, run_underlying hu, Result.andThen_ok]; rfl
    · rw [equal_eq]; simp only [Op.equalIn, Sem.run_bind, run_underlying hu, Result.andThen_ok]; rfl
    · intro e f; rcases ho with rfl | rfl <;> simp [eqGuard]
    · intro e f; rcases ho with rfl | rfl <;> simp [eqGuard]
    · rcases ho with rfl | rfl <;> exact ⟨rfl, rfl⟩
  · simp only [den] at hx hy
    obtain ⟨_, _, _, _, _, _, rfl⟩ := hx
    subst hy
    refine ⟨⟨?_, ?_⟩, fun op ho => ⟨?_, ?_⟩, fun op ho => ?_⟩
    · rw [equal_eq]; simp only [Op.equalIn, Sem.run_bind, run_underlying hu, Result.andThen_ok]; rfl
    · rw [equal_eq]; simp only [Op.equalIn, Sem.run_bind, run_underlying hu, Result.andThen_ok]; rfl
    · intro e f; rcases ho with rfl | rfl <;> simp [eqGuard]
    · intro e f; rcases ho with rfl | rfl <;> simp [eqGuard]
    · rcases ho with rfl | rfl <;> exact ⟨rfl, rfl⟩
  · simp only [den] at hx hy
    obtain ⟨z, c, _, rfl, _⟩ := hx
    subst hy
    refine ⟨⟨?_, ?_⟩, fun op ho => ⟨?_, ?_⟩, fun op ho => ?_⟩
    · rw [equal_eq]; simp only [Op.equalIn, Sem.run_bind, run_underlying hu, Result.andThen_ok]; rfl
    · rw [equal_eq]; simp only [Op.equalIn, Sem.run_bind, run_underlying hu, Result.andThen_ok]; rfl
    · intro e f; rcases ho with rfl | rfl <;> simp [eqGuard]
    · intro e f; rcases ho with rfl | rfl <;> simp [eqGuard]
    · rcases ho with rfl | rfl <;> exact ⟨rfl, rfl⟩
  · simp only [den] at hx hy
    obtain ⟨vs, rfl, _⟩ := hx
    subst hy
    refine ⟨⟨?_, ?_⟩, fun op ho => ⟨?_, ?_⟩, fun op ho => ?_⟩
    · rw [equal_eq]; simp only [Op.equalIn, Sem.run_bind, run_underlying hu, Result.andThen_ok]; rfl
    · rw [equal_eq]; simp only [Op.equalIn, Sem.run_bind, run_underlying hu, Result.andThen_ok]; rfl
    · intro e f; rcases ho with rfl | rfl <;> simp [eqGuard]
    · intro e f; rcases ho with rfl | rfl <;> simp [eqGuard]
    · rcases ho with rfl | rfl <;> exact ⟨rfl, rfl⟩
  · cases hf
theorem nilCmpA_ok {o : Oper} {op : BinOp} {t yt : TypeId} {x y : Operand} {v : AV} (ho : o.op = .binOp op t x y yt) (h : TR ρ nt tm a) (hb : nilCmpA P op t (ev tm x) (ev tm y) = some v) : Yields P ρ o a v := by
  intro w
  unfold nilCmpA at hb
  cases hu : undF P t with
  | none => rw [hu] at hb; cases hb
  | some d =>
    rw [hu] at hb
    simp only at hb
    have main : ∀ b : Bool, (op = .eql ∧ b = false ∨ op = .neq ∧ b = true) → (nilFit d (ev tm x) (ev tm y) || nilFit d (ev tm y) (ev tm x)) = true → ∃ u, (execOp a.eval o).run P w = .ok (.value u) w ∧ den ρ (.lit (.bool b)) u := by
      intro b hob hf
      refine ⟨.bool b, ?_, by simp only [den]⟩
      have hop : op = .eql ∨ op = .neq := hob.imp (·.1) (·.1)
      rcases Bool.or_eq_true _ _ |>.mp hf with hf | hf
      · obtain ⟨⟨he, _⟩, hg, hbn⟩ := nilFit_run (undF_ok hu) hf (h.ev x) (h.ev y) w
        unfold execOp
        simp only [ho, Sem.run_bind, (hg op hop).1 x y, Result.andThen_ok, (hbn op hop).1]
        rcases hob with ⟨rfl, rfl⟩ | ⟨rfl, rfl⟩ <;> simp [Sem.run_bind, he]
      · obtain ⟨⟨_, he⟩, hg, hbn⟩ := nilFit_run (undF_ok hu) hf (h.ev y) (h.ev x) w
        unfold execOp
        simp only [ho, Sem.run_bind, (hg op hop).2 x y, Result.andThen_ok, (hbn op hop).2]
        rcases hob with ⟨rfl, rfl⟩ | ⟨rfl, rfl⟩ <;> simp [Sem.run_bind, he]
    split at hb
    · rename_i hf; obtain rfl := Option.some.inj hb; exact main false (.inl ⟨rfl, rfl⟩) hf
    · rename_i hf; obtain rfl := Option.some.inj hb; exact main true (.inr ⟨rfl, rfl⟩) hf
    · cases hb
def builtinA (P : Program) [Fast P] (b : Builtin) (ts : Array TypeId) (ty : TypeId) (args : List AV) : Option AV :=
  match b, ts[0]?, args with
  | .len, some t, [.sl _ _ len _ _] => match undF P t with
    | some (.slice _) => some (.lit (.int .i64 (Int.ofNat len)))
    | _ => none
  | .len, some t, [.emp] => match undF P t with
    | some (.slice _) => some (.lit (.int .i64 (Int.ofNat 0)))
    | _ => none
  | .cap, some t, [.sl _ _ _ cap false] => match undF P t with
    | some (.slice _) => some (.lit (.int .i64 (Int.ofNat cap)))
    | _ => none
  | .len, some _, [.lit v] => match semVal P (Builtin.len_ ts ty #[v]) with | some r => some (AV.of r) | none => none
  | .cap, some _, [.lit v] => match semVal P (Builtin.cap_ ts ty #[v]) with | some r => some (AV.of r) | none => none
  | .min, some _, l => match lits l with
    | some vs => match semVal P (Builtin.min_ ts ty vs.toArray) with | some r => some (AV.of r) | none => none
    | none => none
  | .max, some _, l => match lits l with
    | some vs => match semVal P (Builtin.max_ ts ty vs.toArray) with | some r => some (AV.of r) | none => none
    | none => none
  | _, _, _ => none
theorem builtinA_ok {o : Oper} {b : Builtin} {args : Array Operand} {ts : Array TypeId} {v : AV} (ho : o.op = .call { callee := .builtin b, args := args, argTypes := ts }) (h : TR ρ nt tm a) (hf : builtinA P b ts o.type (args.toList.map (ev tm)) = some v) : Yields P ρ o a v := by
  intro w
  have hd := evs_den h args.toList
  have hex : ∀ (consts : Array Bool), (execOp a.eval o).run P w = (builtin b ts o.type (args.map fun | .const _ => true | _ => false) (args.map a.eval)).run P w := by
    intro _
    unfold execOp
    simp only [ho, resolve, Sem.run_bind, Sem.run_pure, Result.andThen_ok, invoke]
    rfl
  rw [hex #[]]
  have hargs : args.map a.eval = (args.toList.map a.eval).toArray := by rw [← Array.toList_map]
  rw [hargs]
  generalize args.toList.map a.eval = vs at hd
  generalize args.toList.map (ev tm) = l at hd hf
  generalize (args.map fun | .const _ => true | _ => false) = cs
  unfold builtinA at hf
  split at hf
  · rename_i t x off len cap op ht
    simp only [dens, den] at hd
    obtain ⟨v1, vs', rfl, ⟨y, c, hy, rfl, _⟩, rfl⟩ := hd
    split at hf
    · rename_i e hu
      obtain rfl := Option.some.inj hf
      refine ⟨.int .i64 len, ?_, by simp only [den]; rfl⟩
      simp [builtin, Builtin.len_, ht, Sem.run_bind, run_underlying (undF_ok hu), goInt]
    · cases hf
  · rename_i t ht
    simp only [dens, den] at hd
    obtain ⟨v1, vs', rfl, ⟨A, c, rfl⟩, rfl⟩ := hd
    split at hf
    · rename_i e hu
      obtain rfl := Option.some.inj hf
      refine ⟨.int .i64 0, ?_, by simp only [den]; rfl⟩
      simp [builtin, Builtin.len_, ht, Sem.run_bind, run_underlying (undF_ok hu), goInt]
    · cases hf
  · rename_i t x off len cap ht
    simp only [dens, den] at hd
    obtain ⟨v1, vs', rfl, ⟨y, c, hy, rfl, _⟩, rfl⟩ := hd
    split at hf
    · rename_i e hu
      obtain rfl := Option.some.inj hf
      refine ⟨.int .i64 cap, ?_, by simp only [den]; rfl⟩
      simp [builtin, Builtin.cap_, ht, Sem.run_bind, run_underlying (undF_ok hu), goInt]
    · cases hf
  · rename_i t v1 ht
    simp only [dens, den] at hd
    obtain ⟨v2, vs', rfl, rfl, rfl⟩ := hd
    split at hf
    · rename_i r hv
      obtain rfl := Option.some.inj hf
      refine ⟨r, ?_, den_of r⟩
      simp only [builtin, Sem.run_bind, semVal_run hv w]
      rfl
    · cases hf
  · rename_i t v1 ht
    simp only [dens, den] at hd
    obtain ⟨v2, vs', rfl, rfl, rfl⟩ := hd
    split at hf
    · rename_i r hv
      obtain rfl := Option.some.inj hf
      refine ⟨r, ?_, den_of r⟩
      simp only [builtin, Sem.run_bind, semVal_run hv w]
      rfl
    · cases hf
  · rename_i t ht
    split at hf
    · rename_i us hl
      obtain rfl := lits_den hl hd
      split at hf
      · rename_i r hv
        obtain rfl := Option.some.inj hf
        refine ⟨r, ?_, den_of r⟩
        simp only [builtin, Sem.run_bind, semVal_run hv w]
        rfl
      · cases hf
    · cases hf
  · rename_i t ht
    split at hf
    · rename_i us hl
      obtain rfl := lits_den hl hd
      split at hf
      · rename_i r hv
        obtain rfl := Option.some.inj hf
        refine ⟨r, ?_, den_of r⟩
        simp only [builtin, Sem.run_bind, semVal_run hv w]
        rfl
      · cases hf
    · cases hf
  · cases hf
end Go.Proofs.YtiepllpgifnloaaGreat.Vx
namespace Go.Proofs.YtiepllpgifnloaaGreat.Vx
open Go.RowKit
variable {P : Program} [Fast P] {ρ ρ' : Rho} {nt : Nat} {tm : T AV} {a : Act} {w w0 w' : World} {K : KS} {st st' : St}
theorem cells_at {x : Nat} {c : Cap} {bk : Bk} (h : CellsR ρ w x c bk) {off n : Nat} (hn : off + n ≤ bk.cells.length) :
    ∃ us, dens ρ ((bk.cells.drop off).take n) us ∧ us.length = n ∧ (∀ u ∈ us, u.oneCell' = true) ∧ ∀ j u, us[j]? = some u → w.cell? ((⟨x, off, none⟩ : Addr).add j) = some u := by
  obtain ⟨vs, rest, h1, h2, h3, h4, h5⟩ := h
  have hl := dens_length h1
  refine ⟨(vs.drop off).take n, dens_take n (dens_drop off h1), by simp; omega, fun u hu => h3 u (List.mem_of_mem_drop (List.mem_of_mem_take hu)), fun j u hj => ?_⟩
  rw [List.getElem?_take] at hj
  split at hj
  · rw [List.getElem?_drop] at hj
    rw [add_lit, h2.cell]
    rw [List.getElem?_toArray, List.getElem?_append_left (by have := (List.getElem?_eq_some_iff.1 hj).1; omega)]
    exact hj
  · cases hj
def loadA (P : Program) [Fast P] (t : TypeId) (x : AV) (st : St) : Option AV :=
  match x with
  | .ptr b off => match getC st.h b with
    | some bk => match aggT P t with
      | some true => match sizeT P t with
        | some n => match Nat.ble (Nat.add off n) bk.cells.length with
          | true => some (.agg ((bk.cells.drop off).take n))
          | false => none
        | none => none
      | some false => getAt bk.cells off
      | none => none
    | none => none
  | _ => none
theorem loadVar_ok {t : TypeId} {z : AV} {v : AV} {uz : Value} (hd : den ρ z uz) (hs : Sim K w0 ρ st w) (hf : loadA P t z st = some v) :
    ∃ u y, uz = .pointer (some y) ∧ (loadVar t y).run P w = .ok u w ∧ den ρ v u := by
  unfold loadA at hf
  split at hf
  · rename_i b off
    simp only [den] at hd
    obtain ⟨y, c, hy, e⟩ := hd
    cases hb : getC st.h b with
    | none => rw [hb] at hf; cases hf
    | some bk =>
      rw [hb] at hf
      simp only at hf
      obtain ⟨y', c', hy', hbk, _⟩ := hs.blkC hb
      rw [hy] at hy'
      obtain ⟨rfl, rfl⟩ := Prod.mk.inj (Option.some.inj hy')
      cases ha : aggT P t with
      | none => rw [ha] at hf; cases hf
      | some g =>
        rw [ha] at hf
        cases g with
        | true =>
          simp only at hf
          cases hz : sizeT P t with
          | none => rw [hz] at hf; cases hf
          | some n =>
            rw [hz] at hf
            simp only at hf
            split at hf
            · rename_i hle
              obtain rfl := Option.some.inj hf
              obtain ⟨us, hdu, hul, _, hc⟩ := cells_at hbk (Nat.le_of_ble_eq_true hle)
              refine ⟨.agg us.toArray, _, e, ?_, by simp only [den]; exact ⟨us, rfl, hdu⟩⟩
              have hr := run_loadCells_list (P := P) w ⟨y, off, none⟩ us hc
              rw [hul] at hr
              simp [Sem.run_bind, loadVar, aggT_run ha, sizeT_run hz, hr]
            · cases hf
        | false =>
          simp only at hf
          rw [getAt_eq] at hf
          obtain ⟨vs, rest, h1, h2, h3, _⟩ := hbk
          obtain ⟨u, hu, hdu⟩ := dens_get off h1 hf
          refine ⟨u, _, e, ?_, hdu⟩
          have hc : w.cell? ⟨y, off, none⟩ = some u := by
            rw [h2.cell, List.getElem?_toArray, List.getElem?_append_left (List.getElem?_eq_some_iff.1 hu).1]
            exact hu
          simp [Sem.run_bind, loadVar, aggT_run ha, run_load, hc]
  · cases hf
theorem loadA_ok {o : Oper} {t : TypeId} {x : Operand} {v : AV} (ho : o.op = .load t x) (h : TR ρ nt tm a) (hs : Sim K w0 ρ st w) (hf : loadA P t (ev tm x) st = some v) :
    ∃ u, (execOp a.eval o).run P w = .ok (.value u) w ∧ den ρ v u := by
  obtain ⟨u, y, e, hr, hd⟩ := loadVar_ok (P := P) (h.ev x) hs hf
  refine ⟨u, ?_, hd⟩
  unfold execOp
  simp [ho, e, Instr.loadAt, Instr.sureAddr, Sem.run_bind, hr]
theorem setRow_other (w : World) (g k : Nat) (cs : Array Value) (h : k ≠ g) : (w.setRow g cs).heap[k]? = w.heap[k]? := by
  unfold World.setRow
  simp only [Array.getElem?_modify]
  rw [if_neg (fun e => h e.symm)]
theorem Kp.setRow (w : World) (g : Nat) (cs : Array Value) : Kp (fun b => b < w.heap.size ∧ b ≠ g) w (w.setRow g cs) :=
  ⟨rfl, rfl, rfl, by simp [World.setRow], fun k hk => setRow_other w g k cs hk.2⟩
theorem Sim.cells {b off x : Nat} {c : Cap} {bk : Bk} {l : List AV} {us : List Value} (hs : Sim K w0 ρ st w) (hb : getC st.h b = some bk) (hl : st.wr b = true) (hx : ρ b = some (x, c)) (hd : dens ρ l us) (h1 : ∀ u ∈ us, u.oneCell' = true) (hn : off + l.length ≤ bk.cells.length) :
    ∃ w', (storeCells ⟨x, off, none⟩ us).run P w = .ok () w' ∧ Sim K w0 ρ ⟨st.h.set b ⟨bk.ty, spliceA bk.cells off l, bk.op⟩, st.n, st.wr⟩ w' := by
  obtain ⟨x', c', hx', hbk, _⟩ := hs.blkC hb
  rw [hx] at hx'
  obtain ⟨rfl, rfl⟩ := Prod.mk.inj (Option.some.inj hx')
  obtain ⟨vs, rest, h2, h3, h4, h5, h6⟩ := hbk
  have hlv := dens_length h2
  have hlu := dens_length hd
  have hr := run_storeB P x off bk.ty us 0 (vs ++ rest).toArray w h3 (by simp; omega) h1
  simp only [Nat.add_zero] at hr
  have e : ((vs ++ rest).toArray.toList.take off ++ us ++ (vs ++ rest).toArray.toList.drop (off + us.length)) = (vs.take off ++ (us ++ vs.drop (off + l.length))) ++ rest := by
    simp only [List.toList_toArray]
    rw [List.take_append_of_le_length (by omega), List.drop_append_of_le_length (by omega), hlu]
    simp [List.append_assoc]
  rw [e] at hr
  refine ⟨_, hr, hs.write b (getC_some hb).1 hl hx (.inl (getC_some hb).2) _ _ (Kp.setRow w x _) fun S => ⟨fun _ => ⟨fun _ => Iff.rfl, ?_⟩, fun e => absurd e (getC_some hb).2⟩⟩
  refine ⟨vs.take off ++ (us ++ vs.drop (off + l.length)), rest, ?_, ?_, ?_, h5, fun s hs' => ?_⟩
  · exact dens_append (dens_take off h2) (dens_append hd (dens_drop _ h2))
  · exact h3.setRow _ (by simp; omega)
  · intro v hv
    rcases List.mem_append.1 hv with hv | hv
    · exact h4 v (List.mem_of_mem_take hv)
    · rcases List.mem_append.1 hv with hv | hv
      · exact h1 v hv
      · exact h4 v (List.mem_of_mem_drop hv)
  · rw [← h6 s hs']
    simp only [List.length_append, List.length_take, List.length_drop]
    omega
def storeA (P : Program) [Fast P] (t : TypeId) (x v : AV) (st : St) : Option St :=
  match x with
  | .ptr b off => match getC st.h b, sizeT P t with
    | some bk, some n => match st.wr b && (v.flat && (Nat.beq v.cells.length n && Nat.ble (Nat.add off v.cells.length) bk.cells.length)) with
      | true => some ⟨st.h.set b ⟨bk.ty, spliceA bk.cells off v.cells, bk.op⟩, st.n, st.wr⟩
      | false => none
    | _, _ => none
  | _ => none
theorem storeA_ok {o : Oper} {t : TypeId} {x y : Operand} (ho : o.op = .store t x y) (h : TR ρ nt tm a) (hs : Sim K w0 ρ st w) (hf : storeA P t (ev tm x) (ev tm y) st = some st') :
    ∃ w', (execOp a.eval o).run P w = .ok .skip w' ∧ Sim K w0 ρ st' w' := by
  have hd := h.ev x
  have hv := h.ev y
  unfold storeA at hf
  split at hf
  · rename_i b off hx
    rw [hx] at hd
    simp only [den] at hd
    obtain ⟨z, c, hz, e⟩ := hd
    split at hf
    · rename_i bk n hb hn
      split at hf
      · rename_i hc
        simp only [Bool.and_eq_true] at hc
        obtain ⟨c1, c2, c3, c4⟩ := hc
        have c3 := Nat.eq_of_beq_eq_true c3
        obtain rfl := Option.some.inj hf
        obtain ⟨hdc, h1⟩ := den_cells hv c2
        obtain ⟨w', hr, hsim⟩ := hs.cells (P := P) hb c1 hz hdc h1 (Nat.le_of_ble_eq_true c4)
        refine ⟨w', ?_, hsim⟩
        have hl := dens_length hdc
        have hsz : (a.eval y).cells.size = n := by rw [← c3, ← hl]; simp
        unfold execOp
        simp [ho, e, Instr.storeAt, Instr.sureAddr, Sem.run_bind, storeVar, sizeT_run hn, hsz, hr]
      · cases hf
    · cases hf
  · cases hf
theorem up_at {ρ : Rho} {n : Nat} {x : Nat × Cap} : (ρ.up n x) n = some x := by simp [Rho.up]
def newA (ty : TypeId) (cells : List AV) (op : Option Nat) (st : St) : St := ⟨st.h.set st.n ⟨ty, cells, op⟩, st.n + 1, st.wr⟩
def allocA (P : Program) [Fast P] (t : TypeId) (st : St) : Option (AV × St) := match zeroA P t with
  | some z => match z.all AV.one with
    | true => some (.ptr st.n 0, newA t z none st)
    | false => none
  | none => none
theorem allocA_ok {o : Oper} {t : TypeId} {v : AV} (ho : o.op = .alloc t) (hs : Sim K w0 ρ st w) (hf : allocA P t st = some (v, st')) :
    ∃ u w' ρ', (execOp a.eval o).run P w = .ok (.value u) w' ∧ Ext st.n st'.n ρ ρ' ∧ Sim K w0 ρ' st' w' ∧ den ρ' v u := by
  unfold allocA zeroA at hf
  cases hi : infoF P t with
  | none => rw [hi] at hf; cases hf
  | some i =>
    cases hz : i.zero with
    | none => rw [hi] at hf; simp only [hz] at hf; cases hf
    | some z =>
      rw [hi] at hf
      simp only [hz] at hf
      split at hf
      · rename_i h1
        obtain ⟨rfl, rfl⟩ := Prod.mk.inj (Option.some.inj hf)
        obtain ⟨h2, hle⟩ := hs.alloc t (z.cells.toList.map AV.lit) none (by simp) 0 z.cells.toList [] (dens_map_lit _) (dens_one (dens_map_lit (ρ := ρ) _) h1) (fun _ => rfl) (fun s hs => nomatch hs)
        refine ⟨.pointer (some ⟨w.heap.size, 0, none⟩), _, _, ?_, hle, h2, ?_⟩
        · unfold execOp
          simp [ho, Instr.alloc, Sem.run_bind, zeroValue, info_run (infoF_ok hi), hz, newVar, newRow]
        · simp only [den]; exact ⟨_, _, up_at, rfl⟩
      · cases hf
def boxA (t : TypeId) (v : AV) (st : St) : Option (AV × St) := match v.flat with
  | true => some (.ptr st.n 0, newA t v.cells none st)
  | false => none
theorem boxA_ok {o : Oper} {t : TypeId} {x : Operand} {v : AV} (ho : o.op = .box t x) (h : TR ρ nt tm a) (hs : Sim K w0 ρ st w) (hf : boxA t (ev tm x) st = some (v, st')) :
    ∃ u w' ρ', (execOp a.eval o).run P w = .ok (.value u) w' ∧ Ext st.n st'.n ρ ρ' ∧ Sim K w0 ρ' st' w' ∧ den ρ' v u := by
  have _i : Fast P := inferInstance
  unfold boxA at hf
  split at hf
  · rename_i hfl
    obtain ⟨rfl, rfl⟩ := Prod.mk.inj (Option.some.inj hf)
    obtain ⟨hd, h1⟩ := den_cells (h.ev x) hfl
    obtain ⟨h2, hle⟩ := hs.alloc t (ev tm x).cells none (by simp) 0 (a.eval x).cells.toList [] hd h1 (fun _ => rfl) (fun s hs => nomatch hs)
    refine ⟨.pointer (some ⟨w.heap.size, 0, none⟩), _, _, ?_, hle, h2, ?_⟩
    · unfold execOp
      simp [ho, Instr.box, Sem.run_bind, newVar, newRow]
    · simp only [den]; exact ⟨_, _, up_at, rfl⟩
  · cases hf
def repA (z : List AV) : Nat → List AV
  | 0 => []
  | n + 1 => z ++ repA z n
theorem made_eq (z : List Value) : ∀ n, (madeCells z.toArray (n * z.length)).toList = (List.replicate n z).flatten
  | 0 => by simp [madeCells]
  | n + 1 => by
    have ih := made_eq z n
    rw [List.replicate_succ', List.flatten_append, ← ih]
    simp only [madeCells, Array.toList_map, Array.toList_range, List.size_toArray, List.flatten_cons, List.flatten_nil, List.append_nil]
    rw [Nat.succ_mul, List.range_add, List.map_append]
    congr 1
    rcases Nat.eq_zero_or_pos z.length with h0 | h0
    · have : z = [] := List.eq_nil_of_length_eq_zero h0
      subst this; simp
    · rw [List.map_map]
      apply List.ext_getElem?
      intro j
      simp only [List.getElem?_map, List.getElem?_range', Function.comp_def]
      rcases Nat.lt_or_ge j z.length with hj | hj
      · rw [List.getElem?_range hj]
        simp only [Option.map_some]
        rw [Nat.mul_comm n, Nat.mul_add_mod, Nat.mod_eq_of_lt hj]
        simp [hj]
      · rw [List.getElem?_eq_none (by simpa using hj), List.getElem?_eq_none hj]
        rfl
theorem repA_den {z : List AV} {zs : List Value} (h : dens ρ z zs) : ∀ n, dens ρ (repA z n) (List.replicate n zs).flatten
  | 0 => by simp [repA, dens]
  | n + 1 => by simp only [repA, List.replicate_succ, List.flatten_cons]; exact dens_append h (repA_den h n)
def buildSliceA (P : Program) [Fast P] (t : TypeId) (len : Nat) (parts : List (Nat × AV)) (st : St) : Option (AV × St) :=
  match undF P t with
  | some (.slice e) => match sizeT P e, zeroA P e with
    | some s, some z => match Nat.ble (Nat.mul len s) 16777216 && (Nat.beq z.length s && Nat.blt 0 s) with
      | true => match fillA (fun i => some (Nat.mul i s, s)) (repA z len) parts with
        | some l => match l.all AV.one with
          | true => some (.sl st.n 0 len len false, newA e l none st)
          | false => none
        | none => none
      | false => none
    | _, _ => none
  | _ => none
theorem fillA_len {place : Nat → Option (Nat × Nat)} : ∀ {parts : List (Nat × AV)} {cells r : List AV}, fillA place cells parts = some r → r.length = cells.length
  | [], cells, r, h => by obtain rfl := Option.some.inj h; rfl
  | (i, v) :: parts, cells, r, h => by
    simp only [fillA] at h
    cases hpl : place i with
    | none => rw [hpl] at h; cases h
    | some os =>
      obtain ⟨off, size⟩ := os
      rw [hpl] at h
      simp only at h
      split at h
      · rename_i hb
        have hb : off + v.cells.length ≤ cells.length := Nat.le_of_ble_eq_true hb
        rw [fillA_len h]
        show (cells.take off ++ (v.cells ++ cells.drop (off + v.cells.length))).length = _
        simp
        omega
      · cases h
theorem buildSliceA_ok {o : Oper} {t : TypeId} {len : Nat} {parts : Array (Nat × Operand)} {v : AV} (ho : o.op = .buildSlice t len parts) (h : TR ρ nt tm a) (hs : Sim K w0 ρ st w) (hf : buildSliceA P t len (parts.toList.map fun p => (p.1, ev tm p.2)) st = some (v, st')) :
    ∃ u w' ρ', (execOp a.eval o).run P w = .ok (.value u) w' ∧ Ext st.n st'.n ρ ρ' ∧ Sim K w0 ρ' st' w' ∧ den ρ' v u := by
  unfold buildSliceA at hf
  split at hf
  · rename_i e hu
    split at hf
    · rename_i s z hsz hz
      split at hf
      · rename_i hc
        simp only [Bool.and_eq_true] at hc
        obtain ⟨c1, c2, c3⟩ := hc
        have c1 : len * s ≤ 16777216 := Nat.le_of_ble_eq_true c1
        have c2 := Nat.eq_of_beq_eq_true c2
        have c3 : 0 < s := Nat.le_of_ble_eq_true c3
        split at hf
        · rename_i l hl
          split at hf
          · rename_i h1
            obtain ⟨rfl, rfl⟩ := Prod.mk.inj (Option.some.inj hf)
            unfold zeroA at hz
            cases hi : infoF P e with
            | none => rw [hi] at hz; cases hz
            | some i =>
              cases hzz : i.zero with
              | none => rw [hi] at hz; simp only [hzz] at hz; cases hz
              | some zz =>
                rw [hi] at hz
                simp only [hzz] at hz
                obtain rfl := Option.some.inj hz
                simp only [List.length_map, Array.length_toList] at c2
                obtain ⟨rs, hr, hd⟩ := fillA_ok (ρ := ρ) (place := fun i => some (Nat.mul i s, s)) (ps := parts.toList.map fun p => (p.1, a.eval p.2)) (repA_den (dens_map_lit zz.cells.toList) len) (by simp) (by
                  simp only [List.map_map]
                  have := evs_den h (parts.toList.map Prod.snd)
                  simpa [List.map_map, Function.comp_def] using this) hl
                obtain ⟨h2, hle⟩ := hs.alloc e l none (by simp) 0 rs [] hd (dens_one hd h1) (fun _ => rfl) (fun s hs => nomatch hs)
                refine ⟨.slice (some ⟨w.heap.size, 0, none⟩) len len, _, _, ?_, hle, h2, ?_⟩
                · have hm : (List.replicate len zz.cells.toList).flatten.toArray = (if len * s = 0 then (#[] : Array Value).map id else Array.map (fun x => zz.cells[x % zz.cells.size]!) (Array.range (len * s))) := by
                    have := made_eq zz.cells.toList len
                    apply Array.ext'
                    rw [List.toList_toArray, ← this]
                    split
                    · rename_i h0
                      have : len = 0 := by
                        rcases Nat.mul_eq_zero.1 h0 with h | h
                        · exact h
                        · omega
                      subst this
                      simp [madeCells]
                    · simp [madeCells, c2]
                  have e1 : ¬ (16777216 < len * s) := by omega
                  unfold execOp
                  by_cases h0 : len * s = 0
                  · have hr0 : Instr.fill (fun i => some (Nat.mul i s, s)) (Array.map (fun x => (#[] : Array Value)[x % (#[] : Array Value).size]!) (Array.range (len * s))) (parts.toList.map fun p => (p.1, a.eval p.2)) = some rs.toArray := by
                      rw [← hr, hm, if_pos h0, h0]
                      simp [Array.range_zero']
                    simp only [ho, Instr.buildSlice, Sem.run_bind, run_underlying (undF_ok hu), Result.andThen_ok, sizeT_run hsz]
                    rw [if_neg e1, if_pos h0]
                    simp only [Sem.run_bind, Sem.run_pure, Result.andThen_ok, Array.toList_map]
                    have hr0' := hr0
                    simp only [Nat.mul_eq] at hr0'
                    rw [hr0']
                    simp [newRow]
                  · have hr0 : Instr.fill (fun i => some (Nat.mul i s, s)) (Array.map (fun x => zz.cells[x % zz.cells.size]!) (Array.range (len * s))) (parts.toList.map fun p => (p.1, a.eval p.2)) = some rs.toArray := by
                      rw [← hr, hm, if_neg h0]
                    simp only [ho, Instr.buildSlice, Sem.run_bind, run_underlying (undF_ok hu), Result.andThen_ok, sizeT_run hsz]
                    rw [if_neg e1, if_neg h0]
                    simp only [Sem.run_bind, Sem.run_pure, Result.andThen_ok, Array.toList_map, zeroValue, info_run (infoF_ok hi), hzz]
                    have hr0' := hr0
                    simp only [Nat.mul_eq] at hr0'
                    rw [hr0']
                    simp [newRow]
                · simp only [den, Bool.false_eq_true, if_false]
                  exact ⟨_, _, up_at, rfl, fun e => e.elim, Nat.le_refl _⟩
          · cases hf
        · cases hf
      · cases hf
    · cases hf
  · cases hf
def natOf : AV → Option Nat
  | .lit (.int _ (.ofNat n)) => some n
  | _ => none
theorem natOf_den {x : AV} {n : Nat} {u : Value} (h : natOf x = some n) (hd : den ρ x u) : ∃ k, u = .int k (n : Int) := by
  unfold natOf at h
  split at h
  · rename_i k m
    obtain rfl := Option.some.inj h
    simp only [den] at hd
    exact ⟨k, hd⟩
  · cases h
def makeSliceA (P : Program) [Fast P] (t : TypeId) (l c : AV) (st : St) : Option (AV × St) :=
  match undF P t, natOf l, natOf c with
  | some (.slice e), some l, some c => match infoF P e, zeroA P e with
    | some i, some z => match Nat.ble l c && (Nat.beq z.length i.size && (z.all AV.one && (Nat.ble (Nat.mul i.bytes c) 281474976710656 && Nat.ble c 9223372036854775807))) with
      | true => some (.sl st.n 0 l c false, newA e (repA z c) none st)
      | false => none
    | _, _ => none
  | _, _, _ => none
theorem repA_one {z : List AV} (h : z.all AV.one = true) : ∀ n, (repA z n).all AV.one = true
  | 0 => rfl
  | n + 1 => by simp only [repA, List.all_append, h, repA_one h n, Bool.and_self]
theorem makeSliceA_ok {o : Oper} {t : TypeId} {x y : Operand} {v : AV} (ho : o.op = .makeSlice t x y) (h : TR ρ nt tm a) (hs : Sim K w0 ρ st w) (hf : makeSliceA P t (ev tm x) (ev tm y) st = some (v, st')) :
    ∃ u w' ρ', (execOp a.eval o).run P w = .ok (.value u) w' ∧ Ext st.n st'.n ρ ρ' ∧ Sim K w0 ρ' st' w' ∧ den ρ' v u := by
  unfold makeSliceA at hf
  split at hf
  · rename_i e l c hu hl hc
    obtain ⟨kl, el⟩ := natOf_den hl (h.ev x)
    obtain ⟨kc, ec⟩ := natOf_den hc (h.ev y)
    split at hf
    · rename_i i z hi hz
      split at hf
      · rename_i hcc
        simp only [Bool.and_eq_true] at hcc
        obtain ⟨c1, c2, c3, c4, c5⟩ := hcc
        have c1 := Nat.le_of_ble_eq_true c1
        have c2 := Nat.eq_of_beq_eq_true c2
        have c4 : i.bytes * c ≤ 281474976710656 := Nat.le_of_ble_eq_true c4
        have c5 := Nat.le_of_ble_eq_true c5
        obtain ⟨rfl, rfl⟩ := Prod.mk.inj (Option.some.inj hf)
        unfold zeroA at hz
        rw [hi] at hz
        simp only at hz
        cases hzz : i.zero with
        | none => rw [hzz] at hz; cases hz
        | some zz =>
          rw [hzz] at hz
          simp only at hz
          obtain rfl := Option.some.inj hz
          simp only [List.length_map, Array.length_toList] at c2
          have hd := repA_den (ρ := ρ) (dens_map_lit zz.cells.toList) c
          obtain ⟨h2, hle⟩ := hs.alloc e _ none (by simp) 0 _ [] hd (dens_one hd (repA_one c3 c)) (fun _ => rfl) (fun s hs => nomatch hs)
          refine ⟨.slice (some ⟨w.heap.size, 0, none⟩) l c, _, _, ?_, hle, h2, ?_⟩
          · have hb : (i.bytes : Int) * (c : Int) ≤ 281474976710656 := by
              have h : ((i.bytes * c : Nat) : Int) ≤ 281474976710656 := by omega
              rwa [Int.natCast_mul] at h
            have hr := run_make (P := P) w t e i zz (undF_ok hu) (infoF_ok hi) hzz kl kc l c (by omega) (by omega) hb (by omega)
            have hm := made_eq zz.cells.toList c
            have e3 : madeCells zz.cells (c * i.size) = (List.replicate c zz.cells.toList).flatten.toArray := by
              apply Array.ext'
              rw [List.toList_toArray, ← hm]
              simp [c2]
            unfold execOp
            simp only [ho, el, ec, Sem.run_bind, hr, Result.andThen_ok, Int.toNat_natCast, e3]
            simp
          · simp only [den, Bool.false_eq_true, if_false]
            exact ⟨_, _, up_at, rfl, fun e => e.elim, c1⟩
      · cases hf
    · cases hf
  · cases hf
def bytesOf : List AV → Option (List UInt8)
  | [] => some []
  | .lit (.int .u8 n) :: l => match bytesOf l with
    | some r => some (UInt8.ofNat n.toNat :: r)
    | none => none
  | _ => none
def strOfA (P : Program) [Fast P] (s t : TypeId) (x : AV) (st : St) : Option AV :=
  match undF P s, undF P t, x with
  | some (.slice e), some .string, .sl b off len _ _ => match undF P e, getC st.h b with
    | some (.int .u8), some bk => match Nat.ble (Nat.add off len) bk.cells.length with
      | true => match bytesOf ((bk.cells.drop off).take len) with
        | some l => some (.lit (.string ⟨l.toArray⟩))
        | none => none
      | false => none
    | _, _ => none
  | _, _, _ => none
theorem bytes_loop {P : Program} [Fast P] : ∀ {l : List AV} {bs : List UInt8} {us : List Value} (s : ByteArray) (w : World), dens ρ l us → bytesOf l = some bs →
    (forIn us s (fun c (s : ByteArray) => match c with
      | .int .u8 n => do pure (ForInStep.yield (s.push (UInt8.ofNat n.toNat)))
      | _ => do let r ← stuck "bytesToString: byte expected"; pure r) : Sem ByteArray).run P w = .ok ⟨s.data ++ bs.toArray⟩ w
  | [], bs, us, s, w, hd, h => by
    simp only [dens] at hd
    subst hd
    obtain rfl := Option.some.inj h
    simp
  | a :: l, bs, us, s, w, hd, h => by
    simp only [dens] at hd
    obtain ⟨v, vs', rfl, h1, h2⟩ := hd
    unfold bytesOf at h
    split at h
    · rename_i heq; cases heq
    · rename_i n l' heq
      obtain ⟨rfl, rfl⟩ := List.cons.inj heq
      simp only [den] at h1
      subst h1
      cases hb : bytesOf l with
      | none => rw [hb] at h; cases h
      | some r =>
        rw [hb] at h
        obtain rfl := Option.some.inj h
        have ih := bytes_loop (P := P) (s.push (UInt8.ofNat n.toNat)) w h2 hb
        simp only [List.forIn_cons, Sem.run_bind, Sem.run_pure, Result.andThen_ok]
        rw [ih]
        congr 1
        apply ByteArray.ext
        apply Array.ext'
        simp [ByteArray.push]
    · cases h
theorem strOfA_ok {o : Oper} {s t : TypeId} {x : Operand} {v : AV} (ho : o.op = .convert s t x) (h : TR ρ nt tm a) (hs : Sim K w0 ρ st w) (hf : strOfA P s t (ev tm x) st = some v) :
    ∃ u, (execOp a.eval o).run P w = .ok (.value u) w ∧ den ρ v u := by
  have hd := h.ev x
  unfold strOfA at hf
  split at hf
  · rename_i e b off len cap op hus hut hx
    rw [hx] at hd
    simp only [den] at hd
    obtain ⟨y, c, hy, ex, _⟩ := hd
    split at hf
    · rename_i bk hue hb
      split at hf
      · rename_i hle
        split at hf
        · rename_i l hl
          obtain rfl := Option.some.inj hf
          obtain ⟨y', c', hy', hbk, _⟩ := hs.blkC hb
          rw [hy] at hy'
          obtain ⟨rfl, rfl⟩ := Prod.mk.inj (Option.some.inj hy')
          obtain ⟨us, hdu, hul, _, hc⟩ := cells_at hbk (Nat.le_of_ble_eq_true hle)
          have hr := run_loadCells_list (P := P) w ⟨y, off, none⟩ us hc
          rw [hul] at hr
          have hloop := bytes_loop (P := P) ByteArray.empty w hdu hl
          refine ⟨.string ⟨l.toArray⟩, ?_, by simp only [den]⟩
          unfold execOp
          simp only [ho, ex, convert, Sem.run_bind, run_underlying (undF_ok hus), run_underlying (undF_ok hut), run_underlying (undF_ok hue), Result.andThen_ok, Conv.bytesToString, hr]
          have e2 : (ByteArray.mk (ByteArray.empty.data ++ l.toArray)) = ⟨l.toArray⟩ := by
            apply ByteArray.ext
            apply Array.ext'
            simp [ByteArray.empty, ByteArray.emptyWithCapacity]
            try rfl
          rw [e2] at hloop
          simp only [List.forIn_toArray] at hloop ⊢
          have hh := hloop
          erw [hh]
          rfl
        · cases hf
      · cases hf
    · cases hf
  · cases hf
end Go.Proofs.YtiepllpgifnloaaGreat.Vx
