/- A run of Go code on values that are known in part: regions in any order, code, calls: what the run tells is so. No program is named. -/
import Derived.Test.YtojddklogigihaaGreatDoorX1
namespace Go.Proofs.YtojddklogigihaaGreatDoor.Sx
section
open Go.RowKit
set_option linter.unusedSimpArgs false
set_option linter.unusedVariables false

abbrev CallT := FuncId → List AV → St → VT (AV × St)

/-! ### One operation -/
def orElse {α : Type} : Option α → Option α → Option α
  | some a, _ => some a
  | none, b => b
def pureX (P : Program) (tm : T AV) : Op → Option AV
  | .move x => some (ev tm x)
  | .assign x => some (ev tm x)
  | .pick c x y => match boolOf (ev tm c) with
    | some b => some (match b with | true => ev tm x | false => ev tm y)
    | none => none
  | .binOp op t x y _ => orElse (binA P op t x y (ev tm x) (ev tm y)) (nilCmpA P op t (ev tm x) (ev tm y))
  | .unOp op _ x => unA P op (ev tm x)
  | .convert s t x => convA P s t (ev tm x)
  | .extract x i => match ev tm x with
    | .tup l => getAt l i
    | _ => none
  | .field t x f => fieldA P t f (ev tm x)
  | .fieldAddr t x f => fieldAddrA P t f (ev tm x)
  | .indexAddr t x i => indexAddrA P t (ev tm x) (ev tm i)
  | .nilCheck x => nilCheckA (ev tm x)
  | .index t x i => indexA P t (ev tm x) (ev tm i)
  | .makeFunc (.func f) first caps => match first.toList with
    | [] => some (.fn f (caps.toList.map (ev tm)))
    | _ => none
  | .build t parts => buildA P t (parts.toList.map fun p => (p.1, ev tm p.2))
  | .slice t x lo hi mx => sliceA P tm t (ev tm x) lo hi mx
  | _ => none
def withSt (st : St) : Option AV → Option (AV × St)
  | some v => some (v, st)
  | none => none
def memX (P : Program) (tm : T AV) (st : St) : Op → Option (AV × St)
  | .load t x => withSt st (loadA P t (ev tm x) st)
  | .lookup t x k ok => withSt st (lookupA P t (ev tm x) (ev tm k) ok st)
  | .makeMap t r => makeMapA P tm t r st
  | .mapUpdate t x k v => match mapUpA P t (ev tm x) (ev tm k) (ev tm v) st with
    | some st' => some (.lit undef, st')
    | none => none
  | .insert t x k v => match mapUpA P t (ev tm x) (ev tm k) (ev tm v) st with
    | some st' => some (.lit undef, st')
    | none => none
  | .convert s t x => match strOfA P s t (ev tm x) st with
    | some v => some (v, st)
    | none => convSlA P s t (ev tm x) st
  | .alloc t => allocA P t st
  | .box t x => boxA t (ev tm x) st
  | .buildSlice t len parts => buildSliceA P t len (parts.toList.map fun p => (p.1, ev tm p.2)) st
  | .makeSlice t l c => makeSliceA P t (ev tm l) (ev tm c) st
  | .store t x y => match storeA P t (ev tm x) (ev tm y) st with
    | some st' => some (.lit undef, st')
    | none => none
  | _ => none
/-- Operations are asked in this order: values, memory, built-ins, calls. -/
def opX (P : Program) (call : CallT) (o : Oper) (tm : T AV) (st : St) : VT (AV × St) :=
  match o.op with
  | .call c => match c.callee with
    | .builtin b => match b with
      | .append => match Nat.beq c.argTypes.size 2 with
        | true => VT.opt o (appendA P c.argTypes (c.args.toList.map (ev tm)) st)
        | false => .fail 1 none
      | .copy => VT.opt o (copyA P c.argTypes (c.args.toList.map (ev tm)) st)
      | .clear => VT.opt o (withSt st (clearA P c.argTypes (c.args.toList.map (ev tm))))
      | b => VT.opt o (withSt st (builtinA P b c.argTypes o.type (c.args.toList.map (ev tm))))
    | .value f => match ev tm f with
      | .fn g caps => call g (c.args.toList.map (ev tm) ++ caps) st
      | _ => .fail 2 (some o)
    | .invoke _ _ => .fail 3 none
  | op => match pureX P tm op with
    | some v => .ret (v, st)
    | none => VT.opt o (memX P tm st op)
/-- Is the operation to be carried out? -/
def wantX (ops : List Oper) (o : Oper) (tm : T AV) : Option Bool := match o.guard with
  | none => some true
  | some (j, want) => match getAt ops j with
    | some oj => match oj.dst with
      | some d => match tm.get d with
        | some (.lit (.bool b)) => some (match b, want with | true, true => true | false, false => true | _, _ => false)
        | some (.lit _) => some false
        | _ => none
      | none => some false
    | none => some false
def putX (nt : Nat) (dst : Option Nat) (tm : T AV) (v : AV) : Option (T AV) := match dst with
  | none => some tm
  | some d => match Nat.blt d nt with
    | true => some (tm.set d v)
    | false => none

/-! ### A region in the order of its text -/
def opsX (P : Program) (call : CallT) (nt : Nat) (all : List Oper) : List Oper → T AV → St → VT (T AV × St)
  | [], tm, st => .ret (tm, st)
  | o :: rest, tm, st => match wantX all o tm with
    | some true => (opX P call o tm st).bind fun r => match putX nt o.dst tm r.1 with
      | some tm' => opsX P call nt all rest tm' r.2
      | none => .fail 4 none
    | some false => match putX nt o.dst tm (.lit undef) with
      | some tm' => opsX P call nt all rest tm' st
      | none => .fail 5 none
    | none => .fail 6 none

/-! ### A region in any order -/
def mem (i : Nat) : List Nat → Bool
  | [] => false
  | j :: l => match Nat.beq i j with
    | true => true
    | false => mem i l
def addTo (i : Nat) (l : List Nat) : List Nat := match mem i l with
  | true => l
  | false => i :: l
def addAll : List Nat → List Nat → List Nat
  | [], l => l
  | i :: c, l => addTo i (addAll c l)
/-- What comes before an operation; 'cls': that of the earlier ones. -/
def befX (cls : List (List Nat)) : List Edge → Option (List Nat)
  | [] => some []
  | e :: es => match befX cls es with
    | none => none
    | some l => match Region.binds .any e with
      | false => some l
      | true => match getAt cls e.on with
        | none => none
        | some c => some (addTo e.on (addAll c l))
def clsX : List Oper → List (List Nat) → Option (List (Oper × List Nat))
  | [], _ => some []
  | o :: ops, cls => match befX cls o.after.toList with
    | some c => match clsX ops (cls ++ [c]) with
      | some l => some ((o, c) :: l)
      | none => none
    | none => none
/-- What is known of an operation that has been carried out: what comes before it, the numbers of what it has made, its value, what it has made, the block that it has written to and what that holds then. -/
structure Re where
  i : Nat
  o : Oper
  c : List Nat
  n : Nat
  m : Nat
  v : AV
  D : List (Nat × Bk)
  tg : List (Nat × Option Bk)
  /-- the one block that it has read, if there is one -/
  rd : Option Nat
def news (h : T Bk) (lo : Nat) : Nat → List (Nat × Bk)
  | 0 => []
  | k + 1 => match h.get (Nat.add lo k) with
    | some bk => (Nat.add lo k, bk) :: news h lo k
    | none => news h lo k
def setAll (h : T Bk) : List (Nat × Bk) → T Bk
  | [] => h
  | (i, bk) :: l => (setAll h l).set i bk
def putTg (h : T Bk) : List (Nat × Option Bk) → T Bk
  | [] => h
  | (b, x) :: l => (putTg h l).put b x
def offTg (h : T Bk) : List (Nat × Option Bk) → T Bk
  | [] => h
  | (b, _) :: l => (offTg h l).put b none
/-- The temporaries and the memory as an operation finds them behind those of c. -/
def viewT (c : List Nat) (tm : T AV) : List Re → T AV
  | [] => tm
  | e :: recs => match e.o.dst with
    | none => viewT c tm recs
    | some d => match mem e.i c with
      | true => (viewT c tm recs).set d e.v
      | false => (viewT c tm recs).put d none
def viewH (c : List Nat) (h : T Bk) : List Re → T Bk
  | [] => h
  | e :: recs => match mem e.i c with
    | true => putTg (setAll (viewH c h recs) e.D) e.tg
    | false => offTg (viewH c h recs) e.tg
def actT (L : Nat → Bool) (tm : T AV) : List Re → T AV
  | [] => tm
  | e :: recs => match L e.i, e.o.dst with
    | true, some d => (actT L tm recs).set d e.v
    | _, _ => actT L tm recs
def actH (L : Nat → Bool) (h : T Bk) : List Re → T Bk
  | [] => h
  | e :: recs => match L e.i with
    | true => putTg (setAll (actH L h recs) e.D) e.tg
    | false => actH L h recs
def dropAll (h : T Bk) : List Nat → T Bk
  | [] => h
  | b :: l => (dropAll h l).put b none
/-- The blocks, known ahead, to which later operations write that do not come after it. -/
def laterX (i : Nat) : List (Nat × List Nat × Nat) → List Nat
  | [] => []
  | (j, cj, b) :: l => match Nat.blt i j, mem i cj with
    | true, false => b :: laterX i l
    | _, _ => laterX i l
/-- Without the temporaries of the later operations that do not come after it. -/
def laterT (i : Nat) (tm : T AV) : List (Oper × List Nat) → T AV
  | [] => tm
  | (o, c) :: l => match mem i c, o.dst with
    | false, some d => (laterT i tm l).put d none
    | _, _ => laterT i tm l
def isPure (o : Oper) : Bool := match o.op with
  | .move _ | .assign _ | .pick .. | .binOp .. | .unOp .. | .index .. | .extract .. | .field .. | .fieldAddr .. | .indexAddr .. | .nilCheck _ | .makeFunc .. | .build .. | .slice .. => true
  | .call c => match c.callee with
    | .builtin .append => false
    | .builtin .copy => false
    | .builtin _ => true
    | _ => false
  | _ => false
def ptrOf : AV → Option Nat
  | .ptr b _ => some b
  | _ => none
def lenOf : AV → Option Nat
  | .sl _ _ len _ _ => some len
  | .emp => some 0
  | .lit (.slice _ len _) => some len
  | _ => none
/-! The blocks that a value leads to. -/
mutual
def idsX : AV → List Nat → List Nat
  | .ptr b _, acc => b :: acc
  | .sl b _ _ _ _, acc => b :: acc
  | .mp b, acc => b :: acc
  | .fn _ l, acc => idsL l acc
  | .agg l, acc => idsL l acc
  | .tup l, acc => idsL l acc
  | _, acc => acc
def idsL : List AV → List Nat → List Nat
  | [], acc => acc
  | a :: l, acc => idsX a (idsL l acc)
end
/-- The blocks that values lead to. -/
def reachX (h : T Bk) : Nat → List Nat → T Nat → List Nat → List Nat
  | 0, _, _, acc => acc
  | _ + 1, [], _, acc => acc
  | f + 1, i :: l, m, acc => match m.get i, h.get i with
    | none, some bk => reachX h f (idsL bk.cells l) (m.set i 0) (i :: acc)
    | _, _ => reachX h f l m acc
/-- The blocks that an operation may write to. -/
def targetX (own : Nat → Bool) (o : Oper) (tm : T AV) (h : T Bk) : List Nat := match o.op with
  | .store _ x _ => match ev tm x with
    | .ptr b _ => [b]
    | _ => []
  | .call c => match c.callee with
    | .builtin .append => match c.args.toList.map (ev tm) with
      | [.sl b _ len cap op, y] => match op with
        | true => [b]
        | false => match lenOf y with
          | some n => match Nat.ble (Nat.add len n) cap with
            | true => [b]
            | false => []
          | none => [b]
      | _ => []
    | .builtin .copy => match c.args.toList.map (ev tm) with
      | [.sl b _ _ _ _, _] => [b]
      | _ => []
    | .value f => match ev tm f with
      | .fn g caps => match own g with
        | true => reachX h 1000000 (idsL (c.args.toList.map (ev tm)) (idsL caps [])) .e []
        | false => []
      | _ => []
    | _ => []
  | .convert s t x => match Nat.beq s t, ev tm x with
    | true, .sl b _ _ _ _ => [b]
    | _, _ => []
  | .mapUpdate _ x _ _ | .insert _ x _ _ => match ev tm x with
    | .mp b => [b]
    | _ => []
  | _ => []
def keepW (h : T Bk) (wr : Nat → Bool) : List Nat → List Nat
  | [] => []
  | b :: l => match wr b, h.get b with
    | true, some _ => b :: keepW h wr l
    | _, _ => keepW h wr l
def tgtX (own : Nat → Bool) (o : Oper) (tm : T AV) (h : T Bk) (wr : Nat → Bool) : List Nat := keepW h wr (targetX own o tm h)
def wrX (n : Nat) (b : List Nat) : Nat → Bool := fun k => match Nat.ble n k with
  | true => true
  | false => mem k b
def told (b : Nat) (i j : Nat) : List (Nat × List Nat × Nat) → Bool
  | [] => false
  | p :: l => match Nat.beq p.1 j, Nat.beq p.2.2 b, mem i p.2.1 with
    | true, true, false => true
    | _, _, _ => told b i j l
def offB (b : Nat) : List (Nat × Option Bk) → Bool
  | (b', _) :: l => match Nat.beq b b' with
    | true => false
    | false => offB b l
  | [] => true
def offR (b : Nat) : Option Nat → Bool
  | some b' => match Nat.beq b b' with
    | true => false
    | false => true
  | none => false
def readX (o : Oper) (tm : T AV) : Option Nat := match o.op with
  | .load _ x => ptrOf (ev tm x)
  | _ => none
def onlyB (h : T Bk) : Option Nat → T Bk
  | none => h
  | some b => match h.get b with
    | some bk => T.e.set b bk
    | none => .e
/-- Have all that touch the block come before, or been told ahead? -/
def soonX (i : Nat) (c : List Nat) (pre : List (Nat × List Nat × Nat)) (b : Nat) : List Re → Bool
  | [] => true
  | e :: recs => (mem e.i c || (isPure e.o || (offR b e.rd || (told b e.i i pre && offB b e.tg)))) && soonX i c pre b recs
def soonO (i : Nat) (c : List Nat) (pre : List (Nat × List Nat × Nat)) (recs : List Re) : List Nat → Bool
  | [] => true
  | b :: l => soonX i c pre b recs && soonO i c pre recs l
def heapV (o : Oper) (i : Nat) (c : List Nat) (pre : List (Nat × List Nat × Nat)) (h0 : T Bk) (recs : List Re) (rd : Option Nat) : T Bk := match isPure o with
  | true => .e
  | false => onlyB (dropAll (viewH c h0 recs) (laterX i pre)) rd
def tgV (h : T Bk) : List Nat → List (Nat × Option Bk)
  | [] => []
  | b :: l => (b, h.get b) :: tgV h l
def drawX (P : Program) (own : Nat → Bool) (call : CallT) (all : List Oper) (pre : List (Nat × List Nat × Nat)) (tm0 : T AV) (h0 : T Bk) (wr : Nat → Bool) : List (Oper × List Nat) → Nat → Nat → List Re → VT (Nat × List Re)
  | [], _, n, recs => .ret (n, recs)
  | (o, c) :: rest, i, n, recs => match viewT c (laterT i tm0 rest) recs with
    | tm => match wantX all o tm with
      | none => .fail 7 (some o)
      | some false => drawX P own call all pre tm0 h0 wr rest (Nat.succ i) n (⟨i, o, c, n, n, .lit undef, [], [], none⟩ :: recs)
      | some true => match heapV o i c pre h0 recs (readX o tm) with
        | h => match tgtX own o tm h wr with
          | b => (opX P call o tm ⟨h, n, wrX n b⟩).bind fun r => match soonO i c pre recs b && Nat.ble n r.2.n with
            | true => drawX P own call all pre tm0 h0 wr rest (Nat.succ i) r.2.n (⟨i, o, c, n, r.2.n, r.1, news r.2.h n (Nat.sub r.2.n n), tgV r.2.h b, readX o tm⟩ :: recs)
            | false => .fail 8 (some o)
def preX (tm : T AV) : List (Oper × List Nat) → Nat → List (Nat × List Nat × Nat)
  | [], _ => []
  | (o, c) :: l, i => match o.op with
    | .store _ (.tmp t) _ => match tm.get t with
      | some (.ptr b _) => (i, c, b) :: preX tm l (Nat.succ i)
      | _ => preX tm l (Nat.succ i)
    | _ => preX tm l (Nat.succ i)
def noDst : List Oper → T AV → T AV
  | [], tm => tm
  | o :: l, tm => match o.dst with
    | some d => noDst l (tm.put d none)
    | none => noDst l tm
def memO (d : Nat) : List (Option Nat) → Bool
  | [] => false
  | none :: l => memO d l
  | some e :: l => match Nat.beq d e with
    | true => true
    | false => memO d l
/-- The temporaries that are written are others each time, and there is room for them. -/
def distinct (nt : Nat) : List (Option Nat) → Bool
  | [] => true
  | none :: l => distinct nt l
  | some d :: l => match memO d l, Nat.blt d nt with
    | false, true => distinct nt l
    | _, _ => false
def regionX (P : Program) (own : Nat → Bool) (call : CallT) (nt : Nat) (ops : List Oper) (draw : Bool) (tm : T AV) (st : St) : VT (T AV × St) :=
  match draw with
  | false => opsX P call nt ops ops tm st
  | true => match clsX ops [], distinct nt (ops.map (·.dst)) with
    | some l, true => (drawX P own call ops (preX (noDst ops tm) l 0) tm st.h st.wr l 0 st.n []).bind fun r => .ret (actT (fun _ => true) tm r.2, ⟨actH (fun _ => true) st.h r.2, r.1, st.wr⟩)
    | _, _ => .fail 9 ops.head?

/-! ### Code -/
inductive EX where
  | normal
  | exit (id : Nat)
  | ret
def loopX (body : T AV → St → VT (EX × T AV × St)) : Nat → T AV → St → VT (EX × T AV × St)
  | 0, _, _ => .fail 11 none
  | n + 1, tm, st => (body tm st).bind fun r => match r.1 with
    | .normal => loopX body n r.2.1 r.2.2
    | e => .ret (e, r.2)
def codeX (P : Program) (own : Nat → Bool) (call : CallT) (nt : Nat) (fuel : Nat) : Code → T AV → St → VT (EX × T AV × St)
  | .skip, tm, st => .ret (.normal, tm, st)
  | .region _ ops draw, tm, st => (regionX P own call nt ops.toList draw tm st).bind fun r => .ret (.normal, r)
  | .seq x y, tm, st => (codeX P own call nt fuel x tm st).bind fun r => match r.1 with
    | .normal => codeX P own call nt fuel y r.2.1 r.2.2
    | e => .ret (e, r.2)
  | .cond c x y, tm, st => match ev tm c with
    | .lit (.bool true) => codeX P own call nt fuel x tm st
    | .lit (.bool false) => codeX P own call nt fuel y tm st
    | .sbool b => .fork b (codeX P own call nt fuel x tm st) (codeX P own call nt fuel y tm st)
    | _ => .fail 12 none
  | .block id c, tm, st => (codeX P own call nt fuel c tm st).bind fun r => match r.1 with
    | .exit i => match Nat.beq i id with
      | true => .ret (.normal, r.2)
      | false => .ret r
    | _ => .ret r
  | .loop c, tm, st => loopX (codeX P own call nt fuel c) fuel tm st
  | .exit id, tm, st => .ret (.exit id, tm, st)
  | .label _, tm, st => .ret (.normal, tm, st)
  | .ret, tm, st => .ret (.ret, tm, st)
  | _, _, _ => .fail 13 none

/-! ### Calls -/
def argsX : List AV → Nat → T AV → T AV
  | [], _, tm => tm
  | a :: l, k, tm => argsX l (Nat.succ k) (tm.set k a)
def res1 (P : Program) (tm : T AV) (st : St) : ResultVar → Option AV
  | .tmp t => some (ev tm (.tmp t))
  | .cell x t => loadA P t (ev tm (.tmp x)) st
def resX (P : Program) (tm : T AV) (st : St) : List ResultVar → Option AV
  | [] => some (.tup [])
  | [r] => res1 P tm st r
  | [r, s] => match res1 P tm st r, res1 P tm st s with
    | some a, some b => some (.tup [a, b])
    | _, _ => none
  | [r, s, t] => match res1 P tm st r, res1 P tm st s, res1 P tm st t with
    | some a, some b, some c => some (.tup [a, b, c])
    | _, _, _ => none
  | [r, s, t, u] => match res1 P tm st r, res1 P tm st s, res1 P tm st t, res1 P tm st u with
    | some a, some b, some c, some d => some (.tup [a, b, c, d])
    | _, _, _, _ => none
  | _ => none
def fnInfo (P : Program) (f : FuncId) : Option (Func × Code) := match P.funcs[f]? with
  | some fn => match fn.name == "runtime.NumGoroutine", fn.body with
    | false, some c => some (fn, c)
    | _, _ => none
  | none => none
mutual
def renX (f : Nat → Option Nat) : AV → AV
  | .ptr b off => match f b with | some b' => .ptr b' off | none => .dead
  | .sl b off len cap op => match f b with | some b' => .sl b' off len cap op | none => match Nat.beq len 0 with | true => .emp | false => .dead
  | .mp b => match f b with | some b' => .mp b' | none => .dead
  | .fn g l => .fn g (renL f l)
  | .agg l => .agg (renL f l)
  | .tup l => .tup (renL f l)
  | a => a
def renL (f : Nat → Option Nat) : List AV → List AV
  | [] => []
  | a :: l => renX f a :: renL f l
end
/-- Which new blocks are kept, under which numbers. -/
def keepX (h : T Bk) (n0 : Nat) : Nat → List Nat → T Nat → Nat → List (Nat × Nat × Bk) → T Nat × Nat × List (Nat × Nat × Bk)
  | 0, _, m, k, acc => (m, k, acc)
  | _ + 1, [], m, k, acc => (m, k, acc)
  | f + 1, i :: l, m, k, acc => match Nat.blt i n0, m.get i, h.get i with
    | false, none, some bk => keepX h n0 f (idsL bk.cells l) (m.set i k) (Nat.succ k) ((k, i, bk) :: acc)
    | _, _, _ => keepX h n0 f l m k acc
def setRen (f : Nat → Option Nat) (h : T Bk) : List (Nat × Nat × Bk) → T Bk
  | [] => h
  | (k, _, bk) :: l => setRen f (h.set k ⟨bk.ty, renL f bk.cells, bk.op⟩) l
def cutX (st : St) (r : AV × St) : AV × St :=
  match keepX r.2.h st.n 1000000 (idsX r.1 []) .e st.n [] with
  | (m, k, acc) =>
    let f : Nat → Option Nat := fun i => match Nat.blt i st.n with | true => some i | false => m.get i
    (renX f r.1, ⟨setRen f st.h acc, k, st.wr⟩)
/-- 'own': the functions that write to what they are handed. -/
def callX (P : Program) (own : Nat → Bool) (fuel : Nat) : Nat → CallT
  | 0 => fun _ _ _ => .fail 14 none
  | d + 1 => fun f args st => match fnInfo P f with
    | none => .fail (Nat.add 2000 f) none
    | some (fn, c) =>
      let body (st : St) : VT (AV × St) := (codeX P own (callX P own fuel d) (Nat.add args.length (Nat.sub fn.ntmps args.length)) fuel c (argsX args 0 .e) st).bind fun r => match r.1 with
        | .exit _ => .fail 16 none
        | _ => match resX P r.2.1 r.2.2 fn.results.toList with
          | some v => .ret (v, r.2.2)
          | none => .fail (Nat.add 1000 f) none
      match own f with
      | true => body st
      | false => (body ⟨st.h, st.n, fun k => Nat.ble st.n k⟩).bind fun r => .ret (cutX st r)
end
section
open Go.RowKit
set_option linter.unusedSimpArgs false
set_option linter.unusedVariables false

/-! ### The outcome of a tree -/
open Classical in
noncomputable def VT.out {α : Type} : VT α → Option α
  | .ret a => some a
  | .fork c t e => match c with
    | true => t.out
    | false => e.out
  | .must p t => if p then t.out else none
  | .fail _ _ => none
theorem VT.ok_out {α : Type} {K : α → Prop} : ∀ {t : VT α}, t.ok K → ∃ a, t.out = some a ∧ K a
  | .ret a, h => ⟨a, rfl, h⟩
  | .fork c t e, h => by
    cases c with
    | true => obtain ⟨a, ha, hk⟩ := ok_out (t := t) (h.1 rfl); exact ⟨a, ha, hk⟩
    | false => obtain ⟨a, ha, hk⟩ := ok_out (t := e) (h.2 rfl); exact ⟨a, ha, hk⟩
  | .must p t, h => by
    obtain ⟨a, ha, hk⟩ := ok_out h.2
    exact ⟨a, by rw [VT.out, if_pos h.1]; exact ha, hk⟩
  | .fail _ _, h => h.elim
theorem VT.out_bind {α β : Type} : ∀ (t : VT α) (f : α → VT β), (t.bind f).out = t.out.bind fun a => (f a).out
  | .ret a, f => rfl
  | .fork c t e, f => by
    cases c with
    | true => exact out_bind t f
    | false => exact out_bind e f
  | .must p t, f => by
    simp only [VT.bind, VT.out]
    by_cases h : p
    · rw [if_pos h, if_pos h]; exact out_bind t f
    · rw [if_neg h, if_neg h]; rfl
  | .fail _ _, f => rfl
theorem VT.out_bind_some {α β : Type} {t : VT α} {f : α → VT β} {b : β} (h : (t.bind f).out = some b) : ∃ a, t.out = some a ∧ (f a).out = some b := by
  rw [VT.out_bind] at h
  cases ht : t.out with
  | none => rw [ht] at h; cases h
  | some a => rw [ht] at h; exact ⟨a, rfl, h⟩
theorem VT.out_opt {α : Type} {o : Oper} {x : Option α} {a : α} (h : (VT.opt o x).out = some a) : x = some a := by
  cases x with
  | none => cases h
  | some b => exact h

/-! ### One operation -/
variable {P : Program} {K : Nat → Prop} {w0 w : World} {ρ : Rho} {st : St} {nt : Nat} {tm : T AV} {a : Act}
def CallOk (P : Program) (call : CallT) : Prop := ∀ f args st v st', (call f args st).out = some (v, st') →
  st'.wr = st.wr ∧ (∃ fn c, P.funcs[f]? = some fn ∧ (fn.name == "runtime.NumGoroutine") = false ∧ fn.body = some c) ∧
  ∀ K w0 w ρ vs, Sim K w0 ρ st w → dens ρ args vs → Calls P f vs.toArray w fun e w' => ∃ u ρ', e = .returned u ∧ Ext st.n st'.n ρ ρ' ∧ Sim K w0 ρ' st' w' ∧ den ρ' v u

theorem orElse_or {α : Type} {x y : Option α} {a : α} (h : orElse x y = some a) : x = some a ∨ y = some a := by
  cases x with
  | none => exact .inr h
  | some b => exact .inl h
theorem pureX_ok {o : Oper} {v : AV} (h : TR ρ nt tm a) (hf : pureX P tm o.op = some v) : Yields P ρ o a v := by
  unfold pureX at hf
  split at hf
  · rename_i x hop; obtain rfl := Option.some.inj hf; exact move_ok (.inl hop) h
  · rename_i x hop; obtain rfl := Option.some.inj hf; exact move_ok (.inr hop) h
  · rename_i c x y hop
    split at hf
    · rename_i b hb; obtain rfl := Option.some.inj hf; have hp := pick_ok (P := P) hop h hb; cases b <;> exact hp
    · cases hf
  · rename_i op t x y yt hop
    rcases orElse_or hf with hf | hf
    · exact binA_ok hop h hf
    · exact nilCmpA_ok hop h hf
  · rename_i op t x hop; exact unA_ok hop h hf
  · rename_i s t x hop; exact convA_ok hop h hf
  · rename_i x i hop
    split at hf
    · rename_i l hl
      rw [getAt_eq] at hf
      exact extract_ok hop h hl hf
    · cases hf
  · rename_i t x f hop; exact fieldA_ok hop h hf
  · rename_i t x f hop; exact fieldAddrA_ok hop h hf
  · rename_i t x i hop; exact indexAddrA_ok hop h hf
  · rename_i x hop; exact nilCheckA_ok hop h hf
  · rename_i t x i hop; exact indexA_ok hop h hf
  · rename_i f first caps hop
    split at hf
    · rename_i hfi
      obtain rfl := Option.some.inj hf
      have : first = #[] := by apply Array.ext'; simpa using hfi
      subst this
      exact makeFunc_ok hop h
    · cases hf
  · rename_i t parts hop; exact buildA_ok hop h hf
  · rename_i t x lo hi mx hop; exact sliceA_ok hop h hf
  · cases hf

/-- What an operation does with the memory. -/
def Does (P : Program) (K : Nat → Prop) (w0 w : World) (ρ : Rho) (st st' : St) (o : Oper) (a : Act) (v : AV) : Prop :=
  ∃ u w' ρ', ((execOp a.eval o).run P w = .ok (.value u) w' ∨ ((execOp a.eval o).run P w = .ok .skip w' ∧ u = undef)) ∧ Ext st.n st'.n ρ ρ' ∧ Sim K w0 ρ' st' w' ∧ den ρ' v u
theorem withSt_some {st st' : St} {x : Option AV} {v : AV} (h : withSt st x = some (v, st')) : x = some v ∧ st' = st := by
  cases x with
  | none => cases h
  | some y => obtain ⟨rfl, rfl⟩ := Prod.mk.inj (Option.some.inj h); exact ⟨rfl, rfl⟩
theorem Yields.does {o : Oper} {v : AV} (h : Yields P ρ o a v) (hs : Sim K w0 ρ st w) : Does P K w0 w ρ st st o a v := by
  obtain ⟨u, hr, hd⟩ := h w
  exact ⟨u, w, ρ, .inl hr, .refl _ ρ, hs, hd⟩
theorem memX_ok {o : Oper} {v : AV} {st' : St} (h : TR ρ nt tm a) (hs : Sim K w0 ρ st w) (hf : memX P tm st o.op = some (v, st')) : Does P K w0 w ρ st st' o a v := by
  unfold memX at hf
  split at hf
  · rename_i t x hop
    obtain ⟨hf, rfl⟩ := withSt_some hf
    obtain ⟨u, hr, hd⟩ := loadA_ok hop h hs hf
    exact ⟨u, w, ρ, .inl hr, .refl _ ρ, hs, hd⟩
  · rename_i t x k ok hop
    obtain ⟨hf, rfl⟩ := withSt_some hf
    obtain ⟨u, hr, hd⟩ := lookupA_ok hop h hs hf
    exact ⟨u, w, ρ, .inl hr, .refl _ ρ, hs, hd⟩
  · rename_i t r hop
    obtain ⟨u, w', ρ', hr, he, hs', hd⟩ := makeMapA_ok hop h hs hf
    exact ⟨u, w', ρ', .inl hr, he, hs', hd⟩
  · rename_i t x k v' hop
    split at hf
    · rename_i st1 hst
      obtain ⟨rfl, he⟩ := Prod.mk.inj (Option.some.inj hf)
      subst he
      obtain ⟨w', hr, hs', hn, _⟩ := mapUpA_ok (.inl hop) h hs hst
      exact ⟨undef, w', ρ, .inr ⟨hr, rfl⟩, by rw [hn]; exact .refl _ ρ, hs', by simp only [den]⟩
    · cases hf
  · rename_i t x k v' hop
    split at hf
    · rename_i st1 hst
      obtain ⟨rfl, he⟩ := Prod.mk.inj (Option.some.inj hf)
      subst he
      obtain ⟨w', hr, hs', hn, _⟩ := mapUpA_ok (.inr hop) h hs hst
      exact ⟨undef, w', ρ, .inr ⟨hr, rfl⟩, by rw [hn]; exact .refl _ ρ, hs', by simp only [den]⟩
    · cases hf
  · rename_i s t x hop
    split at hf
    · rename_i v' hv
      obtain ⟨rfl, he⟩ := Prod.mk.inj (Option.some.inj hf)
      subst he
      obtain ⟨u, hr, hd⟩ := strOfA_ok hop h hs hv
      exact ⟨u, w, ρ, .inl hr, .refl _ ρ, hs, hd⟩
    · obtain ⟨u, w', hr, hs', hn, _, hd⟩ := convSlA_ok hop h hs hf
      exact ⟨u, w', ρ, .inl hr, by rw [hn]; exact .refl _ ρ, hs', hd⟩
  · rename_i t hop
    obtain ⟨u, w', ρ', hr, he, hs', hd⟩ := allocA_ok (a := a) hop hs hf
    exact ⟨u, w', ρ', .inl hr, he, hs', hd⟩
  · rename_i t x hop
    obtain ⟨u, w', ρ', hr, he, hs', hd⟩ := boxA_ok hop h hs hf
    exact ⟨u, w', ρ', .inl hr, he, hs', hd⟩
  · rename_i t len parts hop
    obtain ⟨u, w', ρ', hr, he, hs', hd⟩ := buildSliceA_ok hop h hs hf
    exact ⟨u, w', ρ', .inl hr, he, hs', hd⟩
  · rename_i t l c hop
    obtain ⟨u, w', ρ', hr, he, hs', hd⟩ := makeSliceA_ok hop h hs hf
    exact ⟨u, w', ρ', .inl hr, he, hs', hd⟩
  · rename_i t x y hop
    split at hf
    · rename_i st1 hst
      obtain ⟨rfl, he⟩ := Prod.mk.inj (Option.some.inj hf)
      subst he
      obtain ⟨w', hr, hs'⟩ := storeA_ok hop h hs hst
      have hn : st1.n = st.n := by
        unfold storeA at hst
        repeat' split at hst
        all_goals first
          | (cases hst; done)
          | (obtain rfl := Option.some.inj hst; rfl)
      exact ⟨undef, w', ρ, .inr ⟨hr, rfl⟩, by rw [hn]; exact .refl _ ρ, hs', by simp only [den]⟩
    · cases hf
  · cases hf
theorem callBuiltin {o : Oper} {c : Call} {b : Builtin} (hop : o.op = .call c) (hb : c.callee = .builtin b) : o.op = .call { callee := .builtin b, args := c.args, argTypes := c.argTypes } := by
  rw [hop, ← hb]
theorem opX_ok {call : CallT} (hc : CallOk P call) {o : Oper} {v : AV} {st' : St} (h : TR ρ nt tm a) (hs : Sim K w0 ρ st w) (hf : (opX P call o tm st).out = some (v, st'))
    {next : Act → World → Prop} {Q : Exit → Act → World → Prop} (hK : ∀ u w' ρ', Ext st.n st'.n ρ ρ' → Sim K w0 ρ' st' w' → den ρ' v u → next (a.put o.dst u) w') : o.wp P a w next Q := by
  have fin : Does P K w0 w ρ st st' o a v → o.wp P a w next Q := by
    rintro ⟨u, w', ρ', hr, he, hs', hd⟩
    unfold Oper.wp
    rcases hr with hr | ⟨hr, rfl⟩
    · rw [hr, Oper.upon_value]; exact hK u w' ρ' he hs' hd
    · rw [hr, Oper.upon_skip]; exact hK _ w' ρ' he hs' hd
  unfold opX at hf
  split at hf
  · rename_i c hop
    split at hf
    · rename_i b hb
      split at hf
      · split at hf
        · rename_i h2
          obtain ⟨u, w', ρ', hr, he, hs', hd⟩ := appendA_ok (callBuiltin hop hb) (Nat.eq_of_beq_eq_true h2) h hs (VT.out_opt hf)
          exact fin ⟨u, w', ρ', .inl hr, he, hs', hd⟩
        · cases hf
      · have hf1 := VT.out_opt hf
        obtain ⟨u, w', hr, hs', hn, _, hd⟩ := copyA_ok (callBuiltin hop hb) h hs hf1
        exact fin ⟨u, w', ρ, .inl hr, by rw [hn]; exact .refl _ ρ, hs', hd⟩
      · have hf1 := VT.out_opt hf
        obtain ⟨hf2, he⟩ := withSt_some hf1
        subst he
        exact fin ((clearA_ok (callBuiltin hop hb) h hf2).does hs)
      · have hf1 := VT.out_opt hf
        obtain ⟨hf2, he⟩ := withSt_some hf1
        subst he
        exact fin ((builtinA_ok (callBuiltin hop hb) h hf2).does hs)
    · rename_i f hcal
      split at hf
      · rename_i g caps hg
        obtain ⟨_, ⟨fn, code, hfn, hname, hbody⟩, hcall⟩ := hc _ _ _ _ _ hf
        have hd := h.ev f
        rw [hg] at hd
        simp only [den] at hd
        obtain ⟨us, hfu, hus⟩ := hd
        have hargs := evs_den h c.args.toList
        have hall := dens_append hargs hus
        have hr : (execOp a.eval o).run P w = .ok (.enter g (c.args.toList.map a.eval ++ us).toArray) w := by
          unfold execOp
          simp only [hop, resolve, hcal, hfu, Deferred.ofValue, Sem.run_bind, Sem.run_pure, Result.andThen_ok, invoke, callFunc, run_program, hfn, hname, hbody]
          simp
        unfold Oper.wp
        rw [hr, Oper.upon_enter]
        refine (hcall K w0 w ρ _ hs hall).mono ?_
        rintro e w' ⟨u, ρ', rfl, he, hs', hd'⟩
        exact hK u w' ρ' he hs' hd'
      · cases hf
    · cases hf
  · rename_i op hnc
    split at hf
    · rename_i v' hv
      obtain ⟨rfl, rfl⟩ := Prod.mk.inj (Option.some.inj hf)
      exact fin ((pureX_ok h hv).does hs)
    · exact fin (memX_ok h hs (VT.out_opt hf))
/-! What may be written to stays the same. -/
theorem memX_wr {o : Op} {v : AV} {st' : St} (hf : memX P tm st o = some (v, st')) : st'.wr = st.wr := by
  unfold memX at hf
  split at hf
  · exact congrArg St.wr (withSt_some hf).2
  · exact congrArg St.wr (withSt_some hf).2
  · unfold makeMapA at hf
    repeat' split at hf
    all_goals first
      | (cases hf; done)
      | (obtain ⟨_, rfl⟩ := Prod.mk.inj (Option.some.inj hf); rfl)
  · split at hf
    · rename_i st1 hst
      obtain ⟨_, rfl⟩ := Prod.mk.inj (Option.some.inj hf)
      unfold mapUpA at hst
      repeat' split at hst
      all_goals first
        | (cases hst; done)
        | (obtain rfl := Option.some.inj hst; rfl)
    · cases hf
  · split at hf
    · rename_i st1 hst
      obtain ⟨_, rfl⟩ := Prod.mk.inj (Option.some.inj hf)
      unfold mapUpA at hst
      repeat' split at hst
      all_goals first
        | (cases hst; done)
        | (obtain rfl := Option.some.inj hst; rfl)
    · cases hf
  · split at hf
    · obtain ⟨_, rfl⟩ := Prod.mk.inj (Option.some.inj hf); rfl
    · unfold convSlA at hf
      repeat' split at hf
      all_goals first
        | (cases hf; done)
        | (obtain ⟨_, rfl⟩ := Prod.mk.inj (Option.some.inj hf); rfl)
  · unfold allocA at hf
    repeat' split at hf
    all_goals first
      | (cases hf; done)
      | (obtain ⟨_, rfl⟩ := Prod.mk.inj (Option.some.inj hf); rfl)
  · unfold boxA at hf
    repeat' split at hf
    all_goals first
      | (cases hf; done)
      | (obtain ⟨_, rfl⟩ := Prod.mk.inj (Option.some.inj hf); rfl)
  · unfold buildSliceA at hf
    repeat' split at hf
    all_goals first
      | (cases hf; done)
      | (obtain ⟨_, rfl⟩ := Prod.mk.inj (Option.some.inj hf); rfl)
  · unfold makeSliceA at hf
    repeat' split at hf
    all_goals first
      | (cases hf; done)
      | (obtain ⟨_, rfl⟩ := Prod.mk.inj (Option.some.inj hf); rfl)
  · split at hf
    · rename_i st1 hst
      obtain ⟨_, rfl⟩ := Prod.mk.inj (Option.some.inj hf)
      unfold storeA at hst
      repeat' split at hst
      all_goals first
        | (cases hst; done)
        | (obtain rfl := Option.some.inj hst; rfl)
    · cases hf
  · cases hf
theorem catA_wr {size bytes : Nat} {E : TypeId} {s v : AV} {n : Nat} {l : List AV} {st st' : St} (hf : catA size bytes E s n l st = some (v, st')) : st'.wr = st.wr := by
  unfold catA at hf
  repeat' split at hf
  all_goals first
    | (cases hf; done)
    | (obtain ⟨_, rfl⟩ := Prod.mk.inj (Option.some.inj hf); rfl)
theorem opX_wr {call : CallT} (hc : CallOk P call) {o : Oper} {v : AV} {st' : St} (hf : (opX P call o tm st).out = some (v, st')) : st'.wr = st.wr := by
  unfold opX at hf
  split at hf
  · rename_i c hop
    split at hf
    · rename_i b hb
      split at hf
      · split at hf
        · have hf := VT.out_opt hf
          unfold appendA at hf
          repeat' split at hf
          all_goals first
            | (cases hf; done)
            | exact catA_wr hf
        · cases hf
      · have hf := VT.out_opt hf
        unfold copyA at hf
        repeat' split at hf
        all_goals first
          | (cases hf; done)
          | (obtain ⟨_, rfl⟩ := Prod.mk.inj (Option.some.inj hf); rfl)
      · exact congrArg St.wr (withSt_some (VT.out_opt hf)).2
      · exact congrArg St.wr (withSt_some (VT.out_opt hf)).2
    · split at hf
      · exact (hc _ _ _ _ _ hf).1
      · cases hf
    · cases hf
  · split at hf
    · obtain ⟨rfl, rfl⟩ := Prod.mk.inj (Option.some.inj hf); rfl
    · exact memX_wr (VT.out_opt hf)

/-! ### Guards -/
theorem wantX_ok {ops : List Oper} {o : Oper} {b : Bool} (h : TR ρ nt tm a) (hf : wantX ops o tm = some b) : Region.wanted o (yielded ops.toArray a.tmps) = b := by
  unfold wantX at hf
  unfold Region.wanted
  split at hf
  · rename_i hg; obtain rfl := Option.some.inj hf; simp only [hg]
  · rename_i j want hg
    simp only [hg]
    split at hf
    · rename_i oj hj
      rw [getAt_eq] at hj
      have hj' : ops.toArray[j]? = some oj := by simpa using hj
      split at hf
      · rename_i d hd
        split at hf
        · rename_i x hx
          obtain rfl := Option.some.inj hf
          have he := h.2 d _ hx
          simp only [den] at he
          have hy : yielded ops.toArray a.tmps j = some x := by
            unfold yielded
            simp only [hj', Option.bind_some, hd]
            rw [Array.getD_eq_getD_getElem?] at he
            cases ht : a.tmps[d]? with
            | none => rw [ht] at he; cases he
            | some u => rw [ht] at he; simp only [Option.getD_some] at he; subst he; rfl
          rw [hy]
          cases x <;> cases want <;> rfl
        · rename_i u hne hx
          obtain rfl := Option.some.inj hf
          have he := h.2 d _ hx
          simp only [den] at he
          have hy : yielded ops.toArray a.tmps j = none := by
            unfold yielded
            simp only [hj', Option.bind_some, hd]
            rw [Array.getD_eq_getD_getElem?] at he
            cases ht : a.tmps[d]? with
            | none => rfl
            | some u' =>
              rw [ht] at he
              simp only [Option.getD_some] at he
              subst he
              cases u' with
              | bool x => exact absurd rfl (hne x)
              | _ => rfl
          rw [hy]
          rfl
        · cases hf
      · rename_i hd
        obtain rfl := Option.some.inj hf
        unfold yielded
        simp only [hj', Option.bind_some, hd, Option.bind_none]
        rfl
    · rename_i hj
      obtain rfl := Option.some.inj hf
      rw [getAt_eq] at hj
      have hj' : ops.toArray[j]? = none := by simpa using hj
      unfold yielded
      simp only [hj', Option.bind_none]
      rfl
end
section
open Go.RowKit
set_option linter.unusedSimpArgs false
set_option linter.unusedVariables false

/-! ### Numbers that occur -/
mutual
def AV.under (n : Nat) : AV → Prop
  | .ptr b _ => b < n
  | .sl b _ _ _ _ => b < n
  | .mp b => b < n
  | .fn _ l => belows n l
  | .agg l => belows n l
  | .tup l => belows n l
  | .lit _ | .sint _ _ | .sbool _ | .emp | .dead => True
def belows (n : Nat) : List AV → Prop
  | [] => True
  | a :: l => a.under n ∧ belows n l
end
def Rho.cut (ρ : Rho) (n : Nat) : Rho := fun i => if i < n then ρ i else none
theorem Rho.cut_le (ρ : Rho) (n : Nat) : (ρ.cut n).le ρ := fun i x h => by
  unfold Rho.cut at h
  split at h
  · exact h
  · cases h
mutual
theorem den_below {ρ : Rho} {n : Nat} (hn : ∀ k, ρ k ≠ none → k < n) : ∀ {a : AV} {v : Value}, den ρ a v → a.under n
  | .ptr b off, v, h => by simp only [den] at h; obtain ⟨x, c, e, _⟩ := h; simp only [AV.under]; exact hn b (by rw [e]; simp)
  | .sl b off len cap op, v, h => by simp only [den] at h; obtain ⟨x, c, e, _⟩ := h; simp only [AV.under]; exact hn b (by rw [e]; simp)
  | .mp b, v, h => by simp only [den] at h; obtain ⟨x, c, e, _⟩ := h; simp only [AV.under]; exact hn b (by rw [e]; simp)
  | .fn _ l, v, h => by simp only [den] at h; obtain ⟨vs, _, h⟩ := h; simp only [AV.under]; exact dens_below hn h
  | .agg l, v, h => by simp only [den] at h; obtain ⟨vs, _, h⟩ := h; simp only [AV.under]; exact dens_below hn h
  | .tup l, v, h => by simp only [den] at h; obtain ⟨vs, _, h⟩ := h; simp only [AV.under]; exact dens_below hn h
  | .lit _, _, _ => by simp only [AV.under]
  | .sint _ _, _, _ => by simp only [AV.under]
  | .sbool _, _, _ => by simp only [AV.under]
  | .emp, _, _ => by simp only [AV.under]
  | .dead, _, _ => by simp only [AV.under]
theorem dens_below {ρ : Rho} {n : Nat} (hn : ∀ k, ρ k ≠ none → k < n) : ∀ {l : List AV} {vs : List Value}, dens ρ l vs → belows n l
  | [], _, _ => by simp only [belows]
  | a :: l, _, h => by simp only [dens] at h; obtain ⟨v, vs, _, h1, h2⟩ := h; simp only [belows]; exact ⟨den_below hn h1, dens_below hn h2⟩
end
mutual
theorem den_cut {ρ : Rho} {n : Nat} : ∀ {a : AV} {v : Value}, den ρ a v → a.under n → den (ρ.cut n) a v
  | .ptr b off, v, h, hb => by simp only [AV.under] at hb; simp only [den] at h ⊢; obtain ⟨x, c, e, r⟩ := h; exact ⟨x, c, by simp only [Rho.cut, hb, if_true]; exact e, r⟩
  | .sl b off len cap op, v, h, hb => by simp only [AV.under] at hb; simp only [den] at h ⊢; obtain ⟨x, c, e, r⟩ := h; exact ⟨x, c, by simp only [Rho.cut, hb, if_true]; exact e, r⟩
  | .mp b, v, h, hb => by simp only [AV.under] at hb; simp only [den] at h ⊢; obtain ⟨x, c, e, r⟩ := h; exact ⟨x, c, by simp only [Rho.cut, hb, if_true]; exact e, r⟩
  | .fn _ l, v, h, hb => by simp only [AV.under] at hb; simp only [den] at h ⊢; obtain ⟨vs, e, h⟩ := h; exact ⟨vs, e, dens_cut h hb⟩
  | .agg l, v, h, hb => by simp only [AV.under] at hb; simp only [den] at h ⊢; obtain ⟨vs, e, h⟩ := h; exact ⟨vs, e, dens_cut h hb⟩
  | .tup l, v, h, hb => by simp only [AV.under] at hb; simp only [den] at h ⊢; obtain ⟨vs, e, h⟩ := h; exact ⟨vs, e, dens_cut h hb⟩
  | .lit _, _, h, _ => by simpa only [den] using h
  | .sint _ _, _, h, _ => by simpa only [den] using h
  | .sbool _, _, h, _ => by simpa only [den] using h
  | .emp, _, h, _ => by simpa only [den] using h
  | .dead, _, _, _ => by simp only [den]
theorem dens_cut {ρ : Rho} {n : Nat} : ∀ {l : List AV} {vs : List Value}, dens ρ l vs → belows n l → dens (ρ.cut n) l vs
  | [], _, h, _ => by simpa only [dens] using h
  | a :: l, _, h, hb => by simp only [belows] at hb; simp only [dens] at h ⊢; obtain ⟨v, vs, e, h1, h2⟩ := h; exact ⟨v, vs, e, den_cut h1 hb.1, dens_cut h2 hb.2⟩
end
mutual
theorem below_mono {n m : Nat} (hnm : n ≤ m) : ∀ {a : AV}, a.under n → a.under m
  | .ptr b off, hb => by simp only [AV.under] at hb ⊢; omega
  | .sl b off len cap op, hb => by simp only [AV.under] at hb ⊢; omega
  | .mp b, hb => by simp only [AV.under] at hb ⊢; omega
  | .fn _ l, hb => by simp only [AV.under] at hb ⊢; exact belows_mono hnm hb
  | .agg l, hb => by simp only [AV.under] at hb ⊢; exact belows_mono hnm hb
  | .tup l, hb => by simp only [AV.under] at hb ⊢; exact belows_mono hnm hb
  | .lit _, _ => by simp only [AV.under]
  | .sint _ _, _ => by simp only [AV.under]
  | .sbool _, _ => by simp only [AV.under]
  | .emp, _ => by simp only [AV.under]
  | .dead, _ => by simp only [AV.under]
theorem belows_mono {n m : Nat} (hnm : n ≤ m) : ∀ {l : List AV}, belows n l → belows m l
  | [], _ => by simp only [belows]
  | a :: l, hb => by simp only [belows] at hb ⊢; exact ⟨below_mono hnm hb.1, belows_mono hnm hb.2⟩
end

/-! ### Lists of numbers, of blocks -/
theorem mem_iff {i : Nat} : ∀ {l : List Nat}, mem i l = true ↔ i ∈ l
  | [] => by simp [mem]
  | j :: l => by
    simp only [mem]
    by_cases h : i = j
    · subst h; simp
    · rw [beq_ff h]; simp [h, mem_iff (l := l)]
theorem mem_addTo {i k : Nat} {l : List Nat} (h : k ∈ addTo i l) : k = i ∨ k ∈ l := by
  unfold addTo at h
  split at h
  · exact .inr h
  · exact List.mem_cons.1 h
theorem mem_addAll {k : Nat} : ∀ {c l : List Nat}, k ∈ addAll c l → k ∈ c ∨ k ∈ l
  | [], l, h => .inr h
  | i :: c, l, h => by
    rcases mem_addTo h with rfl | h
    · exact .inl (by simp)
    · rcases mem_addAll h with h | h
      · exact .inl (by simp [h])
      · exact .inr h
def lk (D : List (Nat × Bk)) (k : Nat) : Option Bk := (setAll .e D).get k
theorem setAll_get (h : T Bk) : ∀ (D : List (Nat × Bk)) (k : Nat), (setAll h D).get k = match lk D k with | some b => some b | none => h.get k
  | [], k => by simp [setAll, lk, T.get_e]
  | (i, bk) :: D, k => by
    have ih := setAll_get h D k
    unfold lk at ih ⊢
    simp only [setAll, T.get_put]
    by_cases hk : k = i
    · rw [if_pos hk, if_pos hk]
    · rw [if_neg hk, if_neg hk, ih]
theorem lk_news (h : T Bk) (lo : Nat) : ∀ (c k : Nat), lk (news h lo c) k = if lo ≤ k ∧ k < lo + c then h.get k else none
  | 0, k => by rw [if_neg (by omega)]; simp [news, lk, setAll, T.get_e]
  | c + 1, k => by
    have ih := lk_news h lo c k
    have hlo : Nat.add lo c = lo + c := rfl
    simp only [news, hlo]
    cases e : h.get (lo + c) with
    | none =>
      simp only
      rw [ih]
      by_cases hk : k = lo + c
      · subst hk; rw [if_neg (by omega), if_pos (by omega), e]
      · by_cases h1 : lo ≤ k ∧ k < lo + c
        · rw [if_pos h1, if_pos (by omega)]
        · rw [if_neg h1, if_neg (by omega)]
    | some bk =>
      simp only [lk, setAll, T.get_put]
      by_cases hk : k = lo + c
      · subst hk; rw [if_pos rfl, if_pos (by omega), e]
      · rw [if_neg hk]
        have : ((setAll .e (news h lo c)).get k) = lk (news h lo c) k := rfl
        rw [this, ih]
        by_cases h1 : lo ≤ k ∧ k < lo + c
        · rw [if_pos h1, if_pos (by omega)]
        · rw [if_neg h1, if_neg (by omega)]
def lkT : List (Nat × Option Bk) → Nat → Option (Option Bk)
  | [], _ => none
  | (b, x) :: l, k => if k = b then some x else lkT l k
theorem putTg_get (h : T Bk) : ∀ (tg : List (Nat × Option Bk)) (k : Nat), (putTg h tg).get k = match lkT tg k with | some x => x | none => h.get k
  | [], k => rfl
  | (b, x) :: l, k => by
    simp only [putTg, T.get_put, lkT]
    by_cases hk : k = b
    · rw [if_pos hk, if_pos hk]
    · rw [if_neg hk, if_neg hk]; exact putTg_get h l k
theorem offTg_get (h : T Bk) : ∀ (tg : List (Nat × Option Bk)) (k : Nat), (offTg h tg).get k = match lkT tg k with | some _ => none | none => h.get k
  | [], k => rfl
  | (b, x) :: l, k => by
    simp only [offTg, T.get_put, lkT]
    by_cases hk : k = b
    · rw [if_pos hk, if_pos hk]
    · rw [if_neg hk, if_neg hk]; exact offTg_get h l k
theorem lkT_mem : ∀ {tg : List (Nat × Option Bk)} {k : Nat} {x : Option Bk}, lkT tg k = some x → (k, x) ∈ tg
  | [], _, _, h => nomatch h
  | (b, y) :: l, k, x, h => by
    simp only [lkT] at h
    split at h
    · rename_i hk; subst hk; obtain rfl := Option.some.inj h; simp
    · simp [lkT_mem h]
theorem lkT_tgV (h : T Bk) : ∀ (bs : List Nat) (k : Nat), lkT (tgV h bs) k = if k ∈ bs then some (h.get k) else none
  | [], k => by simp [tgV, lkT]
  | b :: l, k => by
    simp only [tgV, lkT, lkT_tgV h l k]
    by_cases hk : k = b
    · subst hk; simp
    · simp [hk]
theorem tgV_mem {h : T Bk} : ∀ {bs : List Nat} {p : Nat × Option Bk}, p ∈ tgV h bs → p.1 ∈ bs ∧ p.2 = h.get p.1
  | [], _, hp => nomatch hp
  | b :: l, p, hp => by
    simp only [tgV] at hp
    rcases List.mem_cons.1 hp with rfl | hp
    · exact ⟨by simp, rfl⟩
    · exact ⟨by simp [(tgV_mem hp).1], (tgV_mem hp).2⟩
theorem offB_mem {b : Nat} {x : Option Bk} : ∀ {tg : List (Nat × Option Bk)}, offB b tg = true → (b, x) ∉ tg
  | [], _ => by simp
  | (b', y) :: l, h => by
    simp only [offB] at h
    split at h
    · cases h
    · rename_i hb
      intro hm
      rcases List.mem_cons.1 hm with hm | hm
      · obtain ⟨rfl, _⟩ := Prod.mk.inj hm
        simp at hb
      · exact offB_mem h hm
theorem dropAll_get {h : T Bk} : ∀ {l : List Nat} {k : Nat} {bk : Bk}, (dropAll h l).get k = some bk → h.get k = some bk ∧ k ∉ l
  | [], k, bk, e => ⟨e, by simp⟩
  | b :: l, k, bk, e => by
    simp only [dropAll, T.get_put] at e
    split at e
    · cases e
    · rename_i hk
      obtain ⟨h1, h2⟩ := dropAll_get e
      exact ⟨h1, by simp [hk, h2]⟩
theorem told_in {b i j : Nat} : ∀ {pre : List (Nat × List Nat × Nat)}, told b i j pre = true → i < j → b ∈ laterX i pre
  | [], h, _ => nomatch h
  | p :: l, h, hij => by
    obtain ⟨pj, pc, pb⟩ := p
    simp only [told] at h
    simp only [laterX]
    split at h
    · rename_i h1 h2 h3
      have h1 := Nat.eq_of_beq_eq_true h1
      have h2 := Nat.eq_of_beq_eq_true h2
      subst h1; subst h2
      have : Nat.blt i pj = true := by simpa [Nat.blt_eq] using hij
      rw [this, h3]
      simp
    · have ih := told_in h hij
      split
      · simp [ih]
      · exact ih
theorem soonX_mem {i b : Nat} {c : List Nat} {pre : List (Nat × List Nat × Nat)} : ∀ {recs : List Re} {e : Re}, soonX i c pre b recs = true → e ∈ recs → mem e.i c = true ∨ isPure e.o = true ∨ offR b e.rd = true ∨ (told b e.i i pre = true ∧ offB b e.tg = true)
  | [], _, _, h => nomatch h
  | x :: recs, e, hs, he => by
    simp only [soonX, Bool.and_eq_true, Bool.or_eq_true] at hs
    rcases List.mem_cons.1 he with rfl | he
    · rcases hs.1 with h | h | h
      · exact .inl h
      · exact .inr (.inl h)
      · exact .inr (.inr (h.imp id id))
    · exact soonX_mem hs.2 he

/-! ### What is known of a drawn region -/
section
variable (P : Program) (own : Nat → Bool) (call : CallT) (all : List Oper) (pre : List (Nat × List Nat × Nat)) (tm0 : T AV) (h0 : T Bk) (wr : Nat → Bool) (n0 : Nat)
structure Ran (e : Re) (recs : List Re) (tm : T AV) (h : T Bk) (b : List Nat) (st' : St) : Prop where
  run : (opX P call e.o tm ⟨h, e.n, wrX e.n b⟩).out = some (e.v, st')
  num : e.m = st'.n
  made : e.D = news st'.h e.n (st'.n - e.n)
  tg : e.tg = tgV st'.h b
  soon : soonO e.i e.c pre recs b = true
  rd : e.rd = readX e.o tm
structure Entry (e : Re) (recs : List Re) (rest : List (Oper × List Nat)) : Prop where
  idx : e.i = recs.length
  le : e.n ≤ e.m
  how : (wantX all e.o (viewT e.c (laterT e.i tm0 rest) recs) = some false ∧ e.v = .lit undef ∧ e.D = [] ∧ e.tg = []) ∨
    (wantX all e.o (viewT e.c (laterT e.i tm0 rest) recs) = some true ∧
      ∃ st', Ran P call pre e recs (viewT e.c (laterT e.i tm0 rest) recs) (heapV e.o e.i e.c pre h0 recs (readX e.o (viewT e.c (laterT e.i tm0 rest) recs))) (tgtX own e.o (viewT e.c (laterT e.i tm0 rest) recs) (heapV e.o e.i e.c pre h0 recs (readX e.o (viewT e.c (laterT e.i tm0 rest) recs))) wr) st')
def Ok : List (Oper × List Nat) → List Re → Nat → Prop
  | _, [], n => n = n0
  | rest, e :: recs, n => n = e.m ∧ Entry P own call all pre tm0 h0 wr e recs rest ∧ Ok ((e.o, e.c) :: rest) recs e.n
end
section
variable {P : Program} {own : Nat → Bool} {call : CallT} {all : List Oper} {pre : List (Nat × List Nat × Nat)} {tm0 : T AV} {h0 : T Bk} {wr : Nat → Bool} {n0 : Nat}
theorem drawX_ok : ∀ (l : List (Oper × List Nat)) (recs : List Re) (n : Nat) {m : Nat} {R : List Re}, Ok P own call all pre tm0 h0 wr n0 l recs n →
    (drawX P own call all pre tm0 h0 wr l recs.length n recs).out = some (m, R) → Ok P own call all pre tm0 h0 wr n0 [] R m ∧ R.reverse.map (fun e => (e.o, e.c)) = recs.reverse.map (fun e => (e.o, e.c)) ++ l
  | [], recs, n, m, R, hok, h => by
    simp only [drawX, VT.out] at h
    obtain ⟨rfl, rfl⟩ := Prod.mk.inj (Option.some.inj h)
    exact ⟨hok, by simp⟩
  | (o, c) :: rest, recs, n, m, R, hok, h => by
    simp only [drawX] at h
    split at h
    · cases h
    · rename_i hw
      obtain ⟨h1, h2⟩ := drawX_ok rest (⟨recs.length, o, c, n, n, .lit undef, [], [], none⟩ :: recs) n (by
        simp only [Ok]
        exact ⟨trivial, ⟨rfl, Nat.le_refl n, .inl ⟨hw, rfl, rfl, rfl⟩⟩, hok⟩) (by simpa using h)
      exact ⟨h1, by rw [h2]; simp⟩
    · rename_i hw
      obtain ⟨⟨v, st'⟩, hr, h⟩ := VT.out_bind_some h
      simp only at h
      split at h
      · rename_i hs
        simp only [Bool.and_eq_true] at hs
        obtain ⟨h1, h2⟩ := drawX_ok rest (⟨recs.length, o, c, n, st'.n, v, news st'.h n (Nat.sub st'.n n), tgV st'.h (tgtX own o (viewT c (laterT recs.length tm0 rest) recs) (heapV o recs.length c pre h0 recs (readX o (viewT c (laterT recs.length tm0 rest) recs))) wr), readX o (viewT c (laterT recs.length tm0 rest) recs)⟩ :: recs) st'.n (by
          simp only [Ok]
          exact ⟨trivial, ⟨rfl, Nat.le_of_ble_eq_true hs.2, .inr ⟨hw, st', hr, rfl, rfl, rfl, hs.1, rfl⟩⟩, hok⟩) (by simpa using h)
        exact ⟨h1, by rw [h2]; simp⟩
      · cases h

variable {rest : List (Oper × List Nat)} {recs R : List Re} {e : Re} {n m : Nat}
theorem keepW_mem {h : T Bk} {b : Nat} : ∀ {l : List Nat}, b ∈ keepW h wr l → wr b = true ∧ ∃ bk, h.get b = some bk
  | [], hm => nomatch hm
  | x :: l, hm => by
    simp only [keepW] at hm
    split at hm
    · rename_i hw hb
      rcases List.mem_cons.1 hm with rfl | hm
      · exact ⟨hw, _, hb⟩
      · exact keepW_mem hm
    · exact keepW_mem hm
theorem soonO_mem {i b : Nat} {c : List Nat} : ∀ {l : List Nat}, soonO i c pre recs l = true → b ∈ l → soonX i c pre b recs = true
  | [], _, h => nomatch h
  | x :: l, hs, h => by
    simp only [soonO, Bool.and_eq_true] at hs
    rcases List.mem_cons.1 h with rfl | h
    · exact hs.1
    · exact soonO_mem hs.2 h
theorem heapV_some {o : Oper} {i : Nat} {c : List Nat} {rd : Option Nat} {k : Nat} {bk : Bk} (h : (heapV o i c pre h0 recs rd).get k = some bk) : isPure o = false ∧ (viewH c h0 recs).get k = some bk ∧ k ∉ laterX i pre ∧ ∀ b, rd = some b → k = b := by
  unfold heapV at h
  split at h
  · rw [T.get_e] at h; cases h
  · rename_i hp
    cases rd with
    | none => exact ⟨hp, (dropAll_get h).1, (dropAll_get h).2, fun _ e => nomatch e⟩
    | some b =>
      simp only [onlyB] at h
      split at h
      · rename_i bk' hb
        rw [T.get_put] at h
        split at h
        · rename_i hk
          subst hk
          obtain rfl := Option.some.inj h
          exact ⟨hp, (dropAll_get hb).1, (dropAll_get hb).2, fun _ e => Option.some.inj e⟩
        · rw [T.get_e] at h; cases h
      · rw [T.get_e] at h; cases h
/-- What is known of the block that an operation writes to. -/
theorem Entry.tgt (he : Entry P own call all pre tm0 h0 wr e recs rest) {b : Nat} {x : Option Bk} (ht : (b, x) ∈ e.tg) :
    isPure e.o = false ∧ wr b = true ∧ (∃ bk, (viewH e.c h0 recs).get b = some bk) ∧ soonX e.i e.c pre b recs = true ∧ ∀ b', e.rd = some b' → b = b' := by
  rcases he.how with ⟨_, _, _, h⟩ | ⟨_, st', h⟩
  · rw [h] at ht; cases ht
  · rw [h.tg] at ht
    obtain ⟨hb, hx⟩ := tgV_mem ht
    simp only at hb hx
    obtain ⟨hw, bk, hbk⟩ := keepW_mem hb
    obtain ⟨hp, hv, _, hr⟩ := heapV_some hbk
    exact ⟨hp, hw, ⟨bk, hv⟩, soonO_mem h.soon hb, fun b' he => hr b' (by rw [← h.rd]; exact he)⟩
theorem Entry.made_in (he : Entry P own call all pre tm0 h0 wr e recs rest) {k : Nat} {bk : Bk} (h : lk e.D k = some bk) : e.n ≤ k ∧ k < e.m := by
  rcases he.how with ⟨_, _, hD, _⟩ | ⟨_, st', hr⟩
  · rw [hD] at h; simp [lk, setAll, T.get_e] at h
  · rw [hr.made, lk_news] at h
    split at h
    · rename_i hk; have := hr.num; have := he.le; omega
    · cases h
theorem Ok.le : ∀ {recs : List Re} {rest : List (Oper × List Nat)} {n : Nat}, Ok P own call all pre tm0 h0 wr n0 rest recs n → n0 ≤ n
  | [], _, _, h => by simp only [Ok] at h; omega
  | e :: recs, _, _, h => by simp only [Ok] at h; have := Ok.le h.2.2; have := h.2.1.le; omega
theorem Ok.in_ : ∀ {recs : List Re} {rest : List (Oper × List Nat)} {n : Nat}, Ok P own call all pre tm0 h0 wr n0 rest recs n → ∀ e ∈ recs, n0 ≤ e.n ∧ e.n ≤ e.m ∧ e.m ≤ n ∧ e.i < recs.length
  | [], _, _, _, _, h => nomatch h
  | x :: recs, _, _, h, e, he => by
    simp only [Ok] at h
    have hx := h.2.1.idx
    have hle := h.2.1.le
    rcases List.mem_cons.1 he with rfl | he
    · exact ⟨h.2.2.le, hle, by omega, by simp [hx]⟩
    · have := Ok.in_ h.2.2 e he
      refine ⟨this.1, this.2.1, by omega, by simp; omega⟩
theorem Ok.split : ∀ {later : List Re} {rest : List (Oper × List Nat)} {m : Nat}, Ok P own call all pre tm0 h0 wr n0 rest (later ++ e :: recs) m →
    Entry P own call all pre tm0 h0 wr e recs (later.reverse.map (fun e => (e.o, e.c)) ++ rest) ∧ Ok P own call all pre tm0 h0 wr n0 ((e.o, e.c) :: (later.reverse.map (fun e => (e.o, e.c)) ++ rest)) recs e.n ∧
    ∀ x ∈ later, e.m ≤ x.n ∧ e.i < x.i ∧ x.n ≤ x.m ∧ ∃ recs' rest', e ∈ recs' ∧ Entry P own call all pre tm0 h0 wr x recs' rest' ∧ Ok P own call all pre tm0 h0 wr n0 ((x.o, x.c) :: rest') recs' x.n ∧ ∃ l2, recs' = l2 ++ e :: recs ∧ ∀ y ∈ l2, y ∈ later
  | [], rest, m, h => by
    simp only [List.nil_append, Ok] at h
    exact ⟨h.2.1, h.2.2, fun _ hx => nomatch hx⟩
  | y :: later, rest, m, h => by
    simp only [List.cons_append, Ok] at h
    obtain ⟨h1, h2, h3⟩ := h
    obtain ⟨h4, h5, h6⟩ := Ok.split h3
    have hrw : later.reverse.map (fun e => (e.o, e.c)) ++ (y.o, y.c) :: rest = (y :: later).reverse.map (fun e => (e.o, e.c)) ++ rest := by simp
    rw [hrw] at h4 h5
    refine ⟨h4, h5, fun x hx => ?_⟩
    rcases List.mem_cons.1 hx with rfl | hx
    · have hin := Ok.in_ h3 e (by simp)
      exact ⟨hin.2.2.1, by rw [h2.idx]; exact hin.2.2.2, h2.le, later ++ e :: recs, rest, by simp, h2, h3, later, rfl, fun y hy => by simp [hy]⟩
    · obtain ⟨a1, a2, a3, recs', rest', a4, a5, a6, l2, a7, a8⟩ := h6 x hx
      exact ⟨a1, a2, a3, recs', rest', a4, a5, a6, l2, a7, fun y hy => by simp [a8 y hy]⟩
theorem viewH_lt (hk0 : ∀ k bk, h0.get k = some bk → k < n0) : ∀ {recs : List Re} {rest : List (Oper × List Nat)} {n : Nat}, Ok P own call all pre tm0 h0 wr n0 rest recs n → ∀ (c : List Nat) {k : Nat} {bk : Bk}, (viewH c h0 recs).get k = some bk → k < n
  | [], _, n, h, c, k, bk, hk => by simp only [Ok] at h; have := hk0 k bk hk; omega
  | e :: recs, _, n, h, c, k, bk, hk => by
    simp only [Ok] at h
    obtain ⟨rfl, h2, h3⟩ := h
    have hle := h2.le
    have ih : ∀ c bk, (viewH c h0 recs).get k = some bk → k < e.m := fun c bk hk => Nat.lt_of_lt_of_le (viewH_lt hk0 h3 c hk) hle
    have hD : ∀ h : T Bk, (setAll h e.D).get k = some bk → k < e.m ∨ h.get k = some bk := fun h hx => by
      rw [setAll_get] at hx
      split at hx
      · rename_i hl; exact .inl (h2.made_in hl).2
      · exact .inr hx
    simp only [viewH] at hk
    split at hk
    · rw [putTg_get] at hk
      split at hk
      · rename_i x htg
        obtain ⟨_, _, ⟨bk', hb⟩, _⟩ := h2.tgt (lkT_mem htg)
        exact ih _ _ hb
      · rcases hD _ hk with h | h
        · exact h
        · exact ih _ _ h
    · rw [offTg_get] at hk
      split at hk
      · cases hk
      · exact ih _ _ hk
end
end
section
open Go.RowKit
set_option linter.unusedSimpArgs false
set_option linter.unusedVariables false
section
variable {P : Program} {own : Nat → Bool} {call : CallT} {all : List Oper} {pre : List (Nat × List Nat × Nat)} {tm0 tm : T AV} {h0 : T Bk} {wr : Nat → Bool} {n0 : Nat}
variable {rest : List (Oper × List Nat)} {recs R later : List Re} {e : Re} {n m k t i : Nat} {bk : Bk} {v : AV} {c : List Nat} {L L' : Nat → Bool}

/-! ### The views -/
theorem lk_none (h : Entry P own call all pre tm0 h0 wr e recs rest) (hk : k < e.n ∨ e.m ≤ k) : lk e.D k = none := by
  cases hl : lk e.D k with
  | none => rfl
  | some bk => have := h.made_in hl; omega
theorem viewH_act (hk0 : ∀ k bk, h0.get k = some bk → k < n0) (hc : ∀ k, mem k c = true → L k = true) : ∀ {recs : List Re} {rest : List (Oper × List Nat)} {n : Nat}, Ok P own call all pre tm0 h0 wr n0 rest recs n →
    (viewH c h0 recs).get k = some bk → (actH L h0 recs).get k = some bk
  | [], _, _, _, hk => hk
  | e :: recs, _, _, h, hk => by
    simp only [Ok] at h
    obtain ⟨_, h2, h3⟩ := h
    simp only [viewH] at hk
    split at hk
    · rename_i hm
      simp only [actH, hc _ hm]
      rw [putTg_get, setAll_get] at hk ⊢
      cases htg : lkT e.tg k with
      | some x => rw [htg] at hk; exact hk
      | none =>
        rw [htg] at hk
        simp only at hk ⊢
        cases hl : lk e.D k with
        | some b => rw [hl] at hk; exact hk
        | none => rw [hl] at hk; exact viewH_act hk0 hc h3 hk
    · have hk' : (viewH c h0 recs).get k = some bk ∧ lkT e.tg k = none := by
        rw [offTg_get] at hk
        cases htg : lkT e.tg k with
        | some x => rw [htg] at hk; cases hk
        | none => rw [htg] at hk; exact ⟨hk, rfl⟩
      have ih := viewH_act hk0 hc h3 hk'.1
      simp only [actH]
      split
      · rw [putTg_get, hk'.2, setAll_get, lk_none h2 (.inl (viewH_lt hk0 h3 c hk'.1))]
        exact ih
      · exact ih
theorem viewH_src (hk0 : ∀ k bk, h0.get k = some bk → k < n0) : ∀ {recs : List Re} {rest : List (Oper × List Nat)} {n : Nat}, Ok P own call all pre tm0 h0 wr n0 rest recs n →
    (∀ x ∈ recs, L x.i = true → ∀ k, mem k x.c = true → L k = true) → ∀ (c : List Nat) {k : Nat} {bk : Bk}, (∀ k, mem k c = true → L k = true) → (viewH c h0 recs).get k = some bk → k < n0 ∨ ∃ x ∈ recs, L x.i = true ∧ x.n ≤ k ∧ k < x.m
  | [], _, _, _, _, c, k, bk, _, hk => .inl (hk0 _ _ hk)
  | e :: recs, _, _, h, hcl, c, k, bk, hc, hk => by
    simp only [Ok] at h
    obtain ⟨_, h2, h3⟩ := h
    have up : (k < n0 ∨ ∃ x ∈ recs, L x.i = true ∧ x.n ≤ k ∧ k < x.m) → k < n0 ∨ ∃ x ∈ e :: recs, L x.i = true ∧ x.n ≤ k ∧ k < x.m := fun h => h.imp id fun ⟨x, hx, r⟩ => ⟨x, by simp [hx], r⟩
    have ih : ∀ c bk, (∀ k, mem k c = true → L k = true) → (viewH c h0 recs).get k = some bk → k < n0 ∨ ∃ x ∈ e :: recs, L x.i = true ∧ x.n ≤ k ∧ k < x.m := fun c bk hc hk => up (viewH_src hk0 h3 (fun x hx => hcl x (by simp [hx])) c hc hk)
    simp only [viewH] at hk
    split at hk
    · rename_i hm
      rw [putTg_get, setAll_get] at hk
      have hD : (match lk e.D k with | some b => some b | none => (viewH c h0 recs).get k) = some bk → k < n0 ∨ ∃ x ∈ e :: recs, L x.i = true ∧ x.n ≤ k ∧ k < x.m := fun hx => by
        cases hl : lk e.D k with
        | some b => exact .inr ⟨e, by simp, hc _ hm, h2.made_in hl⟩
        | none => rw [hl] at hx; exact ih c _ hc hx
      cases htg : lkT e.tg k with
      | none => rw [htg] at hk; exact hD hk
      | some x =>
        obtain ⟨_, _, ⟨bk', hb⟩, _⟩ := h2.tgt (lkT_mem htg)
        exact ih e.c _ (hcl e (by simp) (hc _ hm)) hb
    · rw [offTg_get] at hk
      cases htg : lkT e.tg k with
      | none => rw [htg] at hk; exact ih c _ hc hk
      | some x => rw [htg] at hk; cases hk
/-- What occurs in what has been carried out. -/
def Stat (L : Nat → Bool) (recs : List Re) : Prop := ∀ x ∈ recs, L x.i = true → x.v.under x.m ∧ (∀ k bk, lk x.D k = some bk → belows x.m bk.cells) ∧ ∀ b bk, (b, some bk) ∈ x.tg → belows x.m bk.cells
theorem viewH_cells (hb0 : ∀ k bk, h0.get k = some bk → belows n0 bk.cells) (hc : ∀ k, mem k c = true → L k = true) : ∀ {recs : List Re} {rest : List (Oper × List Nat)} {n : Nat}, Ok P own call all pre tm0 h0 wr n0 rest recs n → Stat L recs →
    (viewH c h0 recs).get k = some bk → belows n bk.cells
  | [], _, _, h, _, hk => by simp only [Ok] at h; subst h; exact hb0 _ _ hk
  | e :: recs, _, _, h, hst, hk => by
    simp only [Ok] at h
    obtain ⟨rfl, h2, h3⟩ := h
    have ih : (viewH c h0 recs).get k = some bk → belows e.m bk.cells := fun hk => belows_mono h2.le (viewH_cells hb0 hc h3 (fun x hx => hst x (by simp [hx])) hk)
    simp only [viewH] at hk
    split at hk
    · rename_i hm
      obtain ⟨_, s2, s3⟩ := hst e (by simp) (hc _ hm)
      rw [putTg_get, setAll_get] at hk
      have hD : (match lk e.D k with | some b => some b | none => (viewH c h0 recs).get k) = some bk → belows e.m bk.cells := fun hx => by
        cases hl : lk e.D k with
        | some b => rw [hl] at hx; obtain rfl := Option.some.inj hx; exact s2 _ _ hl
        | none => rw [hl] at hx; exact ih hx
      cases htg : lkT e.tg k with
      | none => rw [htg] at hk; exact hD hk
      | some x => rw [htg] at hk; simp only at hk; subst hk; exact s3 _ _ (lkT_mem htg)
    · rw [offTg_get] at hk
      cases htg : lkT e.tg k with
      | none => rw [htg] at hk; exact ih hk
      | some x => rw [htg] at hk; cases hk
theorem viewT_src : ∀ {recs : List Re}, (viewT c tm recs).get t = some v → tm.get t = some v ∨ ∃ x ∈ recs, mem x.i c = true ∧ v = x.v
  | [], h => .inl h
  | e :: recs, h => by
    have up : (tm.get t = some v ∨ ∃ x ∈ recs, mem x.i c = true ∧ v = x.v) → tm.get t = some v ∨ ∃ x ∈ e :: recs, mem x.i c = true ∧ v = x.v := fun h => h.imp id fun ⟨x, hx, r⟩ => ⟨x, by simp [hx], r⟩
    simp only [viewT] at h
    split at h
    · exact up (viewT_src h)
    · split at h
      · rename_i hm
        rw [T.get_put] at h
        split at h
        · exact .inr ⟨e, by simp, hm, (Option.some.inj h).symm⟩
        · exact up (viewT_src h)
      · rw [T.get_put] at h
        split at h
        · cases h
        · exact up (viewT_src h)
theorem viewT_act (hc : ∀ k, mem k c = true → L k = true) (hs : ∀ t v, tm.get t = some v → tm0.get t = some v) : ∀ {recs : List Re}, (viewT c tm recs).get t = some v → (actT L tm0 recs).get t = some v
  | [], h => hs _ _ h
  | e :: recs, h => by
    simp only [viewT] at h
    simp only [actT]
    split at h
    · rename_i hd
      have := viewT_act hc hs h
      split
      · rename_i hd'; rw [hd] at hd'; cases hd'
      · exact this
    · rename_i d hd
      split at h
      · rename_i hm
        simp only [hc _ hm, hd]
        rw [T.get_put] at h ⊢
        split
        · rename_i ht; rw [if_pos ht] at h; exact h
        · rename_i ht; rw [if_neg ht] at h; exact viewT_act hc hs h
      · rw [T.get_put] at h
        split at h
        · cases h
        · rename_i ht
          have := viewT_act hc hs h
          split
          · rename_i d' _ hd'
            rw [hd] at hd'
            obtain rfl := Option.some.inj hd'
            rw [T.get_put, if_neg ht]
            exact this
          · exact this
theorem viewT_none (hn : tm.get t = none) : ∀ {recs : List Re}, (∀ x ∈ recs, x.o.dst ≠ some t) → (viewT c tm recs).get t = none
  | [], _ => hn
  | e :: recs, h => by
    have ih := viewT_none hn (recs := recs) fun x hx => h x (by simp [hx])
    have he := h e (by simp)
    simp only [viewT]
    split
    · exact ih
    · rename_i d hd
      have : t ≠ d := fun e => he (e ▸ hd)
      split <;> rw [T.get_put, if_neg this] <;> exact ih
theorem laterT_sub : ∀ {rest : List (Oper × List Nat)}, (laterT i tm rest).get t = some v → tm.get t = some v
  | [], h => h
  | (o, c) :: rest, h => by
    simp only [laterT] at h
    split at h
    · rw [T.get_put] at h
      split at h
      · cases h
      · exact laterT_sub h
    · exact laterT_sub h
theorem laterT_none {o : Oper} : ∀ {rest : List (Oper × List Nat)}, (o, c) ∈ rest → mem i c = false → o.dst = some t → (laterT i tm rest).get t = none
  | [], h, _, _ => nomatch h
  | (o', c') :: rest, h, hm, hd => by
    simp only [laterT]
    rcases List.mem_cons.1 h with he | h
    · obtain ⟨rfl, rfl⟩ := Prod.mk.inj he
      rw [hm, hd]
      simp only
      rw [T.get_put, if_pos rfl]
    · have ih := laterT_none h hm hd
      split
      · rw [T.get_put]
        split
        · rfl
        · exact ih
      · exact ih

/-! ### What has been carried out -/
theorem actT_later : ∀ {later : List Re}, (∀ x ∈ later, L x.i = true → x.o.dst ≠ some t) → (actT L tm0 (later ++ R)).get t = (actT L tm0 R).get t
  | [], _ => rfl
  | x :: later, h => by
    have ih := actT_later (later := later) fun y hy => h y (by simp [hy])
    have hx := h x (by simp)
    simp only [List.cons_append, actT]
    split
    · rename_i d hL hd
      rw [T.get_put, if_neg (by rintro rfl; exact hx hL hd)]
      exact ih
    · exact ih
theorem actT_congr : ∀ {recs : List Re}, (∀ x ∈ recs, L x.i = L' x.i) → actT L tm0 recs = actT L' tm0 recs
  | [], _ => rfl
  | x :: recs, h => by simp only [actT, h x (by simp), actT_congr (recs := recs) fun y hy => h y (by simp [hy])]
theorem actH_congr : ∀ {recs : List Re}, (∀ x ∈ recs, L x.i = L' x.i) → actH L h0 recs = actH L' h0 recs
  | [], _ => rfl
  | x :: recs, h => by simp only [actH, h x (by simp), actH_congr (recs := recs) fun y hy => h y (by simp [hy])]
theorem actT_put (hd : e.o.dst = some t) (hL : L e.i = true) : (actT L tm0 (e :: recs)).get t = some e.v := by simp only [actT, hL, hd, T.get_put, if_pos]
theorem actT_skip (hne : e.o.dst ≠ some t) (h1 : ∀ x ∈ recs, L' x.i = L x.i) : ∀ {later : List Re}, (∀ x ∈ later, L' x.i = L x.i) → (actT L' tm0 (later ++ e :: recs)).get t = (actT L tm0 (later ++ e :: recs)).get t
  | [], _ => by
    have hc := actT_congr (tm0 := tm0) h1
    have key : ∀ L : Nat → Bool, (actT L tm0 (e :: recs)).get t = (actT L tm0 recs).get t := fun L => by
      simp only [actT]
      split
      · rename_i d _ hd; rw [T.get_put, if_neg (by rintro rfl; exact hne hd)]
      · rfl
    simp only [List.nil_append, key, hc]
  | x :: later, h => by
    have ih := actT_skip hne h1 (later := later) fun y hy => h y (by simp [hy])
    simp only [List.cons_append, actT, h x (by simp)]
    split
    · simp only [T.get_put, ih]
    · exact ih
theorem actH_later : ∀ {later : List Re}, (∀ x ∈ later, L x.i = true → lk x.D k = none ∧ lkT x.tg k = none) → (actH L h0 (later ++ R)).get k = (actH L h0 R).get k
  | [], _ => rfl
  | x :: later, h => by
    have ih := actH_later (later := later) fun y hy => h y (by simp [hy])
    simp only [List.cons_append, actH]
    split
    · rename_i hL
      obtain ⟨h1, h2⟩ := h x (by simp) hL
      rw [putTg_get, h2, setAll_get, h1]
      exact ih
    · exact ih
theorem actH_skip (hD : lk e.D k = none) (hT : lkT e.tg k = none) (h1 : ∀ x ∈ recs, L' x.i = L x.i) : ∀ {later : List Re}, (∀ x ∈ later, L' x.i = L x.i) → (actH L' h0 (later ++ e :: recs)).get k = (actH L h0 (later ++ e :: recs)).get k
  | [], _ => by
    have hc := actH_congr (h0 := h0) h1
    have key : ∀ L : Nat → Bool, (actH L h0 (e :: recs)).get k = (actH L h0 recs).get k := fun L => by
      simp only [actH]
      split
      · rw [putTg_get, hT, setAll_get, hD]
      · rfl
    simp only [List.nil_append, key, hc]
  | x :: later, h => by
    have ih := actH_skip hD hT h1 (later := later) fun y hy => h y (by simp [hy])
    simp only [List.cons_append, actH, h x (by simp)]
    split
    · simp only [putTg_get, setAll_get, ih]
    · exact ih

/-! ### The state behind some operations -/
structure Fix (P : Program) (own : Nat → Bool) (call : CallT) (all : List Oper) (pre : List (Nat × List Nat × Nat)) (tm0 : T AV) (h0 : T Bk) (wr : Nat → Bool) (n0 : Nat) (R : List Re) (m nt : Nat) : Prop where
  ok : Ok P own call all pre tm0 h0 wr n0 [] R m
  keys : ∀ k bk, h0.get k = some bk → k < n0
  cells : ∀ k bk, h0.get k = some bk → belows n0 bk.cells
  tmps : ∀ t v, tm0.get t = some v → v.under n0
  dst : ∀ e ∈ R, ∀ d, e.o.dst = some d → d < nt
  apart : R.Pairwise fun e e' => ∀ d, e.o.dst = some d → e'.o.dst ≠ some d
structure Inv (tm0 : T AV) (h0 : T Bk) (wr : Nat → Bool) (n0 : Nat) (R : List Re) (m nt : Nat) (K : Nat → Prop) (w0 : World) (ρ0 : Rho) (ds : List Deferred) (L : Nat → Bool) (ρ : Rho) (a : Act) (w : World) : Prop where
  closed : ∀ x ∈ R, L x.i = true → ∀ k, mem k x.c = true → L k = true
  tr : TR ρ nt (actT L tm0 R) a
  sim : Sim K w0 ρ ⟨actH L h0 R, m, wr⟩ w
  free : ∀ e ∈ R, L e.i = false → ∀ k, e.n ≤ k → k < e.m → ρ k = none
  ext : Ext n0 m ρ0 ρ
  ds : a.defers = ds
  stat : Stat L R
theorem TR.congr {ρ : Rho} {nt : Nat} {tm tm' : T AV} {a : Act} (h : TR ρ nt tm a) (he : ∀ t v, tm'.get t = some v → tm.get t = some v) : TR ρ nt tm' a := ⟨h.1, fun t v hv => h.2 t v (he t v hv)⟩
theorem put_defers (a : Act) (d : Option Tmp) (v : Value) : (a.put d v).defers = a.defers := by cases d <;> rfl
theorem BkR.cut {ρ : Rho} {w : World} {x c : Nat} {bk : Bk} (h : BkR ρ w x c bk) (hb : belows n bk.cells) : BkR (ρ.cut n) w x c bk := by
  refine ⟨fun hn => ?_, fun hn => ?_⟩
  · obtain ⟨vs, rest, h1, h2⟩ := h.1 hn
    exact ⟨vs, rest, dens_cut h1 hb, h2⟩
  · obtain ⟨vs, n', h1, h2⟩ := h.2 hn
    exact ⟨vs, n', dens_cut h1 hb, h2⟩
theorem BkR.belows {ρ : Rho} {w : World} {x c : Nat} {bk : Bk} (h : BkR ρ w x c bk) (hn : ∀ k, ρ k ≠ none → k < n) : belows n bk.cells := by
  by_cases hop : bk.op = some 0
  · obtain ⟨vs, n', h1, h2⟩ := h.2 hop
    exact dens_below hn h1
  · obtain ⟨vs, rest, h1, h2⟩ := h.1 hop
    exact dens_below hn h1
end
end
section
open Go.RowKit
set_option linter.unusedSimpArgs false
set_option linter.unusedVariables false
section
variable {P : Program} {own : Nat → Bool} {call : CallT} {all : List Oper} {pre : List (Nat × List Nat × Nat)} {tm0 tm : T AV} {h0 : T Bk} {wr : Nat → Bool} {n0 : Nat}
variable {recs R later : List Re} {e : Re} {n m nt : Nat} {L L' : Nat → Bool}
variable {K : Nat → Prop} {w0 w : World} {ρ0 ρ : Rho} {ds : List Deferred} {a : Act}

theorem Inv.step (hcall : CallOk P call) (F : Fix P own call all pre tm0 h0 wr n0 R m nt) (hI : Inv tm0 h0 wr n0 R m nt K w0 ρ0 ds L ρ a w) (hR : R = later ++ e :: recs) (hLe : L e.i = false)
    (hc : ∀ k, mem k e.c = true → L k = true) (hL1 : L' e.i = true) (hL2 : ∀ j, j ≠ e.i → L' j = L j) (Q : Exit → Act → World → Prop) :
    if Region.wanted e.o (yielded all.toArray a.tmps) = true then e.o.wp P a w (fun a' w' => ∃ ρ', Inv tm0 h0 wr n0 R m nt K w0 ρ0 ds L' ρ' a' w') Q
    else ∃ ρ', Inv tm0 h0 wr n0 R m nt K w0 ρ0 ds L' ρ' (a.put e.o.dst undef) w := by
  subst hR
  have hok0 := F.ok
  obtain ⟨hE, hok, hlat⟩ := hok0.split
  have hinR := F.ok.in_
  have heR : e ∈ later ++ e :: recs := by simp
  have hrecs := hok.in_
  have hidx := hE.idx
  have l2l : ∀ x ∈ later, L' x.i = L x.i := fun x hx => hL2 _ (by have := (hlat x hx).2.1; omega)
  have l2r : ∀ x ∈ recs, L' x.i = L x.i := fun x hx => hL2 _ (by have := (hrecs x hx).2.2.2; omega)
  have up : ∀ k, L k = true → L' k = true := fun k hk => by
    by_cases h : k = e.i
    · rw [h]; exact hL1
    · rw [hL2 k h]; exact hk
  obtain ⟨_, hap1, hap2⟩ := List.pairwise_append.1 F.apart
  have hap3 := (List.pairwise_cons.1 hap1).1
  have hnot : ∀ x ∈ later, L x.i = true → mem e.i x.c = false := fun x hx hLx => by
    cases hm : mem e.i x.c with
    | false => rfl
    | true => have := hI.closed x (by simp [hx]) hLx _ hm; rw [hLe] at this; cases this
  have skipT : ∀ t, (actT L tm0 (e :: recs)).get t = (actT L tm0 recs).get t := fun t => by simp only [actT, hLe]
  have skipH : ∀ t, (actH L h0 (e :: recs)).get t = (actH L h0 recs).get t := fun t => by simp only [actH, hLe]
  -- the temporaries
  have TV : ∀ t v, (viewT e.c (laterT e.i tm0 (later.reverse.map (fun e => (e.o, e.c)) ++ [])) recs).get t = some v → (actT L tm0 (later ++ e :: recs)).get t = some v := by
    intro t v h
    have h1 := viewT_act hc (fun t v h => laterT_sub h) h
    rw [actT_later, skipT]
    · exact h1
    · intro x hx hLx hd
      have hn := laterT_none (tm := tm0) (rest := later.reverse.map (fun e => (e.o, e.c)) ++ []) (o := x.o) (c := x.c) (by simp; exact ⟨x, hx, rfl, rfl⟩) (hnot x hx hLx) hd
      have := viewT_none (c := e.c) hn (recs := recs) fun y hy => hap2 x hx y (by simp [hy]) t hd
      rw [this] at h
      cases h
  have UN : ∀ t v, (viewT e.c (laterT e.i tm0 (later.reverse.map (fun e => (e.o, e.c)) ++ [])) recs).get t = some v → v.under e.n := by
    intro t v h
    rcases viewT_src h with h | ⟨x, hx, hm, rfl⟩
    · exact below_mono (hinR e heR).1 (F.tmps t v (laterT_sub h))
    · exact below_mono (hrecs x hx).2.2.1 (hI.stat x (by simp [hx]) (hc _ hm)).1
  have closed' : ∀ x ∈ later ++ e :: recs, L' x.i = true → ∀ k, mem k x.c = true → L' k = true := fun x hx hLx k hk => by
    rcases List.mem_append.1 hx with h | h
    · rw [l2l x h] at hLx; exact up k (hI.closed x hx hLx k hk)
    · rcases List.mem_cons.1 h with rfl | h
      · exact up k (hc k hk)
      · rw [l2r x h] at hLx; exact up k (hI.closed x hx hLx k hk)
  have newT : ∀ t v, (actT L' tm0 (later ++ e :: recs)).get t = some v → if e.o.dst = some t then v = e.v else (actT L tm0 (later ++ e :: recs)).get t = some v := by
    intro t v h
    split
    · rename_i hd
      rw [actT_later (fun x hx _ => fun hx' => hap2 x hx e (by simp) t hx' hd), actT_put hd hL1] at h
      exact (Option.some.inj h).symm
    · rename_i hd
      rw [actT_skip hd l2r l2l] at h
      exact h
  have htr0 : TR (ρ.cut e.n) nt (viewT e.c (laterT e.i tm0 (later.reverse.map (fun e => (e.o, e.c)) ++ [])) recs) a := ⟨hI.tr.1, fun t v h => den_cut (hI.tr.2 t v (TV t v h)) (UN t v h)⟩
  have newTR : ∀ ρ'' u, ρ.le ρ'' → den ρ'' e.v u → TR ρ'' nt (actT L' tm0 (later ++ e :: recs)) (a.put e.o.dst u) := by
    intro ρ'' u hle hd
    cases hdst : e.o.dst with
    | none =>
      refine (hI.tr.mono hle).congr fun t v h => ?_
      have := newT t v h
      rw [hdst, if_neg (by simp)] at this
      exact this
    | some d =>
      refine ((hI.tr.mono hle).put (F.dst e heR d hdst) hd).congr fun t v h => ?_
      have := newT t v h
      rw [hdst] at this
      rw [T.get_put]
      by_cases ht : t = d
      · subst ht; rw [if_pos rfl] at this ⊢; rw [this]
      · rw [if_neg (by simpa using fun e => ht e.symm)] at this; rw [if_neg ht]; exact this
  rcases hE.how with ⟨hw, hv, hD, hT⟩ | ⟨hw, st', hr⟩
  · rw [if_neg (by rw [wantX_ok htr0 hw]; simp)]
    refine ⟨ρ, closed', newTR ρ undef (.refl ρ) (by rw [hv]; simp only [den]), ?_, fun x hx hLx => ?_, hI.ext, by rw [put_defers]; exact hI.ds, fun x hx hLx => ?_⟩
    · refine hI.sim.less _ (fun k bk hk => ?_) (Nat.le_refl _) fun _ h => h
      rw [actH_skip (by rw [hD]; rfl) (by rw [hT]; rfl) l2r l2l] at hk
      exact hk
    · refine hI.free x hx ?_
      by_cases hxe : x.i = e.i
      · rw [hxe, hL1] at hLx; cases hLx
      · rw [hL2 _ hxe] at hLx; exact hLx
    · rcases List.mem_append.1 hx with h | h
      · rw [l2l x h] at hLx; exact hI.stat x hx hLx
      · rcases List.mem_cons.1 h with rfl | h
        · rw [hv, hD, hT]
          exact ⟨by simp only [AV.under], fun k bk h => by simp [lk, setAll, T.get_e] at h, fun b bk h => (by cases h)⟩
        · rw [l2r x h] at hLx; exact hI.stat x hx hLx
  · rw [if_pos (wantX_ok htr0 hw)]
    -- the memory
    have HV : ∀ k bk, (heapV e.o e.i e.c pre h0 recs (readX e.o (viewT e.c (laterT e.i tm0 (later.reverse.map (fun e => (e.o, e.c)) ++ [])) recs))).get k = some bk → (actH L h0 (later ++ e :: recs)).get k = some bk ∧ k < e.n ∧ belows e.n bk.cells := by
      intro k bk hk
      obtain ⟨hp, hk, hnl, hrd⟩ := heapV_some hk
      have hlt := viewH_lt F.keys hok e.c hk
      refine ⟨?_, hlt, viewH_cells F.cells hc hok (fun x hx => hI.stat x (by simp [hx])) hk⟩
      rw [actH_later, skipH]
      · exact viewH_act F.keys hc hok hk
      · intro x hx hLx
        obtain ⟨h1, h2, h3, recs', rest', h4, h5, h6, l2, h7, h8⟩ := hlat x hx
        refine ⟨lk_none h5 (.inl (by have := hE.le; omega)), ?_⟩
        cases htg : lkT x.tg k with
        | none => rfl
        | some y =>
        exfalso
        obtain ⟨_, _, _, hs, _⟩ := h5.tgt (lkT_mem htg)
        rcases soonX_mem hs h4 with h | h | h | ⟨h, _⟩
        · rw [hnot x hx hLx] at h; cases h
        · rw [hp] at h; cases h
        · rw [hr.rd] at h
          cases hrx : readX e.o (viewT e.c (laterT e.i tm0 (later.reverse.map (fun e => (e.o, e.c)) ++ [])) recs) with
          | none => rw [hrx] at h; cases h
          | some b' => rw [hrx] at h; rw [hrd b' hrx] at h; simp [offR] at h
        · exact hnl (told_in h h2)
    generalize hb : tgtX own e.o (viewT e.c (laterT e.i tm0 (later.reverse.map (fun e => (e.o, e.c)) ++ [])) recs) (heapV e.o e.i e.c pre h0 recs (readX e.o (viewT e.c (laterT e.i tm0 (later.reverse.map (fun e => (e.o, e.c)) ++ [])) recs))) wr = b at hr
    have hbt : ∀ b', b' ∈ b → ∃ bk xb cb, (actH L h0 (later ++ e :: recs)).get b' = some bk ∧ b' < e.n ∧ ρ b' = some (xb, cb) ∧ ¬ K xb := by
      intro b' hb'
      rw [← hb] at hb'
      obtain ⟨hwb, bk, hbk⟩ := keepW_mem hb'
      obtain ⟨h1, h2, _⟩ := HV _ _ hbk
      obtain ⟨xb, cb, h3, _, h4⟩ := hI.sim.blk _ _ h1
      exact ⟨bk, xb, cb, h1, h2, h3, h4 hwb⟩
    let Kb : Nat → Prop := fun y => y < w.heap.size ∧ ∀ b', b' ∈ b → ∀ c, ρ b' ≠ some (y, c)
    have hKK : ∀ y, K y → Kb y := fun y hy => ⟨hI.sim.ltw y hy, fun b' hb' c hρ => by
      obtain ⟨_, xb, cb, _, _, h1, h2⟩ := hbt b' hb'
      rw [h1] at hρ
      obtain ⟨rfl, rfl⟩ := Prod.mk.inj (Option.some.inj hρ)
      exact h2 hy⟩
    have hsim : Sim Kb w (ρ.cut e.n) ⟨heapV e.o e.i e.c pre h0 recs (readX e.o (viewT e.c (laterT e.i tm0 (later.reverse.map (fun e => (e.o, e.c)) ++ [])) recs)), e.n, wrX e.n b⟩ w := by
      refine ⟨Kp.refl _ w, fun y hy => hy.1, fun k bk hk => ?_, fun i j bi bj x c c' hi hj ei ej => ?_, fun i hi => ?_⟩
      · obtain ⟨h1, h2, h3⟩ := HV k bk hk
        obtain ⟨x, c, h4, h5, _⟩ := hI.sim.blk k bk h1
        refine ⟨x, c, by simp only [Rho.cut, h2, if_true]; exact h4, h5.cut h3, fun hwr hK => ?_⟩
        simp only [wrX] at hwr
        split at hwr
        · rename_i h; have := Nat.le_of_ble_eq_true h; omega
        · exact hK.2 _ (mem_iff.1 hwr) c h4
      · exact hI.sim.inj i j bi bj x c c' (HV _ _ hi).1 (HV _ _ hj).1 (Rho.cut_le ρ _ _ _ ei) (Rho.cut_le ρ _ _ _ ej)
      · simp only [Rho.cut] at hi
        split at hi
        · assumption
        · exact absurd rfl hi
    refine opX_ok hcall htr0 hsim hr.run (fun u w' ρ' hext hs' hd => ?_)
    have hwr' : st'.wr = wrX e.n b := opX_wr hcall hr.run
    have hm := hr.num
    have hdom : ∀ k, ρ' k ≠ none → k < e.m := fun k hk => by rw [hm]; exact hs'.dom k hk
    have hfree := hI.free e heR hLe
    have eq1 : ∀ k, ¬ (e.n ≤ k ∧ k < e.m) → (fun k => if e.n ≤ k ∧ k < e.m then ρ' k else ρ k) k = ρ k := fun k hk => if_neg hk
    generalize hρ'' : (fun k => if e.n ≤ k ∧ k < e.m then ρ' k else ρ k : Rho) = ρ'' at eq1
    have le1 : ρ.le ρ'' := fun k x h => by
      rw [← hρ'']
      simp only
      split
      · rename_i hk; rw [hfree k hk.1 hk.2] at h; cases h
      · exact h
    have le2 : ρ'.le ρ'' := fun k x h => by
      have hk := hdom k (by rw [h]; simp)
      rw [← hρ'']
      simp only
      split
      · exact h
      · have : ρ' k = (ρ.cut e.n) k := hext.same k (show k < e.n by omega)
        rw [this] at h
        exact Rho.cut_le ρ _ _ _ h
    have hlk : ∀ k, lk e.D k = if e.n ≤ k ∧ k < e.m then st'.h.get k else none := fun k => by
      rw [hr.made, lk_news]
      have := hE.le
      by_cases h : e.n ≤ k ∧ k < e.m
      · rw [if_pos h, if_pos (by omega)]
      · rw [if_neg h, if_neg (by omega)]
    have htgk : ∀ k y, (k, y) ∈ e.tg → k ∈ b ∧ y = st'.h.get k := fun k y h => by
      rw [hr.tg] at h
      exact tgV_mem h
    have hlt : ∀ k, lkT e.tg k = if k ∈ b then some (st'.h.get k) else none := fun k => by rw [hr.tg, lkT_tgV]
    have hcls : ∀ k bk, (actH L' h0 (later ++ e :: recs)).get k = some bk → (st'.h.get k = some bk ∧ (k ∈ b ∨ (e.n ≤ k ∧ k < e.m))) ∨ ((actH L h0 (later ++ e :: recs)).get k = some bk ∧ k ∉ b ∧ ¬(e.n ≤ k ∧ k < e.m)) := by
      intro k bk hk
      by_cases hbk : k ∈ b
      · have htg : lkT e.tg k = some (st'.h.get k) := by rw [hlt, if_pos hbk]
        obtain ⟨hp, _, _, _, htgr⟩ := hE.tgt (lkT_mem htg)
        obtain ⟨_, _, _, _, hkn, _⟩ := hbt k hbk
        rw [actH_later] at hk
        · simp only [actH, hL1] at hk
          rw [putTg_get, htg] at hk
          exact .inl ⟨hk, .inl hbk⟩
        · intro x hx hLx
          rw [l2l x hx] at hLx
          obtain ⟨h1, h2, h3, recs', rest', h4, h5, h6, l2, h7, h8⟩ := hlat x hx
          refine ⟨lk_none h5 (.inl (by have := hE.le; omega)), ?_⟩
          cases htg' : lkT x.tg k with
          | none => rfl
          | some y =>
          exfalso
          obtain ⟨_, _, _, hs, _⟩ := h5.tgt (lkT_mem htg')
          rcases soonX_mem hs h4 with h | h | h | ⟨_, h⟩
          · rw [hnot x hx hLx] at h; cases h
          · rw [hp] at h; cases h
          · cases hrx : e.rd with
            | none => rw [hrx] at h; cases h
            | some b' => rw [hrx, htgr b' hrx] at h; simp [offR] at h
          · exact offB_mem h (lkT_mem htg)
      · by_cases hin : e.n ≤ k ∧ k < e.m
        · have hnt : lkT e.tg k = none := by rw [hlt, if_neg hbk]
          cases hst : st'.h.get k with
          | none =>
            rw [actH_skip (by rw [hlk, if_pos hin, hst]) hnt l2r l2l] at hk
            obtain ⟨x, c, hx, _⟩ := hI.sim.blk k bk hk
            rw [hfree k hin.1 hin.2] at hx
            cases hx
          | some z =>
            rw [actH_later] at hk
            · simp only [actH, hL1] at hk
              rw [putTg_get, hnt, setAll_get, hlk, if_pos hin, hst] at hk
              exact .inl ⟨hk, .inr hin⟩
            · intro x hx hLx
              rw [l2l x hx] at hLx
              obtain ⟨h1, h2, h3, recs', rest', h4, h5, h6, l2, h7, h8⟩ := hlat x hx
              refine ⟨lk_none h5 (.inl (by omega)), ?_⟩
              cases htg' : lkT x.tg k with
              | none => rfl
              | some y =>
              exfalso
              obtain ⟨_, _, ⟨bk', hbk'⟩, _⟩ := h5.tgt (lkT_mem htg')
              have hsub : ∀ y ∈ recs', y ∈ later ++ e :: recs := fun y hy => by
                rw [h7] at hy
                rcases List.mem_append.1 hy with hy | hy
                · simp [h8 y hy]
                · rcases List.mem_cons.1 hy with rfl | hy
                  · simp
                  · simp [hy]
              rcases viewH_src (L := L) F.keys h6 (fun y hy => hI.closed y (hsub y hy)) x.c (hI.closed x (by simp [hx]) hLx) hbk' with h | ⟨y, hy, hLy, hy1, hy2⟩
              · have := (hinR e heR).1; omega
              · have hspl := h6
                rw [h7] at hspl hy
                obtain ⟨_, _, hl2⟩ := hspl.split
                rcases List.mem_append.1 hy with hy | hy
                · have := (hl2 y hy).1; omega
                · rcases List.mem_cons.1 hy with rfl | hy
                  · rw [hLe] at hLy; cases hLy
                  · have := (hrecs y hy).2.2.1; omega
        · rw [actH_skip (by rw [hlk, if_neg hin]) (by rw [hlt, if_neg hbk]) l2r l2l] at hk
          exact .inr ⟨hk, hbk, hin⟩
    have hold : ∀ k bk, (actH L h0 (later ++ e :: recs)).get k = some bk → k ∉ b → ∃ x c, ρ k = some (x, c) ∧ BkR ρ w x c bk ∧ (wr k = true → ¬ K x) ∧ Kb x := by
      intro k bk hk hbk
      obtain ⟨x, c, h1, h2, h3⟩ := hI.sim.blk k bk hk
      refine ⟨x, c, h1, h2, h3, h2.lt, fun b' hb' c' hρ => ?_⟩
      obtain ⟨bk', xb, cb, h4, _, _, _⟩ := hbt b' hb'
      exact hbk (by rw [hI.sim.inj k b' bk bk' x c c' hk h4 h1 hρ]; exact hb')
    have hnew : ∀ k bk, st'.h.get k = some bk → (k ∈ b ∨ (e.n ≤ k ∧ k < e.m)) → ∃ x c, ρ' k = some (x, c) ∧ BkR ρ' w' x c bk ∧ ¬ Kb x := by
      intro k bk hk hor
      obtain ⟨x, c, h1, h2, h3⟩ := hs'.blk k bk hk
      refine ⟨x, c, h1, h2, h3 ?_⟩
      rw [hwr']
      simp only [wrX]
      rcases hor with h | h
      · split
        · rfl
        · exact mem_iff.2 h
      · rw [Nat.ble_eq_true_of_le h.1]
    refine ⟨ρ'', closed', newTR ρ'' u le1 (den_mono le2 hd), ⟨hI.sim.kp.trans (hs'.kp.mono hKK), hI.sim.lt, fun k bk hk => ?_, fun i j bi bj x c c' hi hj ei ej => ?_, fun k hk => ?_⟩, fun x hx hLx => ?_, ?_, by rw [put_defers]; exact hI.ds, fun x hx hLx => ?_⟩
    · rcases hcls k bk hk with ⟨h1, h2⟩ | ⟨h1, h2, h3⟩
      · obtain ⟨x, c, h4, h5, h6⟩ := hnew k bk h1 h2
        exact ⟨x, c, le2 _ _ h4, h5.mono le2 rfl, fun _ hK => h6 (hKK x hK)⟩
      · obtain ⟨x, c, h4, h5, h6, h7⟩ := hold k bk h1 h2
        exact ⟨x, c, le1 _ _ h4, h5.mono le1 (hs'.kp.block x h7), h6⟩
    · rcases hcls i bi hi with ⟨h1, h2⟩ | ⟨h1, h2, h3⟩
      · obtain ⟨xi, ci, hi4, _, hi6⟩ := hnew i bi h1 h2
        have hi5 := le2 _ _ hi4
        rw [ei] at hi5
        obtain ⟨rfl, rfl⟩ := Prod.mk.inj (Option.some.inj hi5)
        rcases hcls j bj hj with ⟨g1, g2⟩ | ⟨g1, g2, g3⟩
        · obtain ⟨xj, cj, hj4, _, _⟩ := hnew j bj g1 g2
          have hj5 := le2 _ _ hj4
          rw [ej] at hj5
          obtain ⟨rfl, rfl⟩ := Prod.mk.inj (Option.some.inj hj5)
          exact hs'.inj i j bi bj _ _ _ h1 g1 hi4 hj4
        · obtain ⟨xj, cj, hj4, _, _, hj6⟩ := hold j bj g1 g2
          have hj5 := le1 _ _ hj4
          rw [ej] at hj5
          obtain ⟨rfl, rfl⟩ := Prod.mk.inj (Option.some.inj hj5)
          exact absurd hj6 hi6
      · obtain ⟨xi, ci, hi4, _, _, hi6⟩ := hold i bi h1 h2
        have hi5 := le1 _ _ hi4
        rw [ei] at hi5
        obtain ⟨rfl, rfl⟩ := Prod.mk.inj (Option.some.inj hi5)
        rcases hcls j bj hj with ⟨g1, g2⟩ | ⟨g1, g2, g3⟩
        · obtain ⟨xj, cj, hj4, _, hj6⟩ := hnew j bj g1 g2
          have hj5 := le2 _ _ hj4
          rw [ej] at hj5
          obtain ⟨rfl, rfl⟩ := Prod.mk.inj (Option.some.inj hj5)
          exact absurd hi6 hj6
        · obtain ⟨xj, cj, hj4, _, _, _⟩ := hold j bj g1 g2
          have hj5 := le1 _ _ hj4
          rw [ej] at hj5
          obtain ⟨rfl, rfl⟩ := Prod.mk.inj (Option.some.inj hj5)
          exact hI.sim.inj i j bi bj _ _ _ h1 g1 hi4 hj4
    · have := (hinR e heR).2.2.1
      by_cases hin : e.n ≤ k ∧ k < e.m
      · show k < m; omega
      · rw [eq1 k hin] at hk; exact hI.sim.dom k hk
    · have hxe : x.i ≠ e.i := fun h => by rw [h, hL1] at hLx; cases hLx
      rw [hL2 _ hxe] at hLx
      intro k hk1 hk2
      have hdis : ¬ (e.n ≤ k ∧ k < e.m) := by
        rcases List.mem_append.1 hx with h | h
        · have := (hlat x h).1; omega
        · rcases List.mem_cons.1 h with h | h
          · exact absurd (congrArg Re.i h) hxe
          · have := (hrecs x h).2.2.1; omega
      rw [eq1 k hdis]
      exact hI.free x hx hLx k hk1 hk2
    · refine ⟨hI.ext.le.trans le1, fun k hk => ?_, hI.ext.num⟩
      have := (hinR e heR).1
      rw [eq1 k (by omega)]
      exact hI.ext.same k hk
    · have old : L x.i = true → x.v.under x.m ∧ (∀ k bk, lk x.D k = some bk → belows x.m bk.cells) ∧ ∀ b bk, (b, some bk) ∈ x.tg → belows x.m bk.cells := hI.stat x hx
      rcases List.mem_append.1 hx with h | h
      · rw [l2l x h] at hLx; exact old hLx
      · rcases List.mem_cons.1 h with rfl | h
        · refine ⟨den_below hdom hd, fun k bk h => ?_, fun b' bk h => ?_⟩
          · rw [hlk] at h
            split at h
            · obtain ⟨x, c, h1, h2, _⟩ := hs'.blk k bk h
              exact h2.belows hdom
            · cases h
          · obtain ⟨_, hy⟩ := htgk _ _ h
            obtain ⟨x, c, h1, h2, _⟩ := hs'.blk b' bk hy.symm
            exact h2.belows hdom
        · rw [l2r x h] at hLx; exact old hLx
end
end
section
open Go.RowKit
set_option linter.unusedSimpArgs false
set_option linter.unusedVariables false
section
variable {P : Program} {own : Nat → Bool} {call : CallT}

/-! ### A drawn region -/
theorem befX_ok {cls : List (List Nat)} : ∀ {es : List Edge} {l : List Nat}, befX cls es = some l →
    (∀ e ∈ es, Region.binds .any e = true → e.on < cls.length) ∧ ∀ k ∈ l, ∃ e ∈ es, Region.binds .any e = true ∧ (k = e.on ∨ ∃ c, cls[e.on]? = some c ∧ k ∈ c)
  | [], l, h => by
    obtain rfl := Option.some.inj h
    exact ⟨(fun _ h => nomatch h), (fun _ h => nomatch h)⟩
  | e :: es, l, h => by
    simp only [befX] at h
    cases hr : befX cls es with
    | none => rw [hr] at h; cases h
    | some l' =>
      rw [hr] at h
      obtain ⟨h1, h2⟩ := befX_ok hr
      have up : ∀ k ∈ l', ∃ e' ∈ e :: es, Region.binds .any e' = true ∧ (k = e'.on ∨ ∃ c, cls[e'.on]? = some c ∧ k ∈ c) := fun k hk => let ⟨e', he', r⟩ := h2 k hk; ⟨e', by simp [he'], r⟩
      simp only at h
      split at h
      · rename_i hb
        obtain rfl := Option.some.inj h
        refine ⟨fun x hx hbx => ?_, up⟩
        rcases List.mem_cons.1 hx with rfl | hx
        · rw [hb] at hbx; cases hbx
        · exact h1 x hx hbx
      · rename_i hb
        cases hg : getAt cls e.on with
        | none => rw [hg] at h; cases h
        | some c =>
          rw [hg] at h
          obtain rfl := Option.some.inj h
          rw [getAt_eq] at hg
          refine ⟨fun x hx hbx => ?_, fun k hk => ?_⟩
          · rcases List.mem_cons.1 hx with rfl | hx
            · exact (List.getElem?_eq_some_iff.1 hg).1
            · exact h1 x hx hbx
          · rcases mem_addTo hk with rfl | hk
            · exact ⟨e, by simp, hb, .inl rfl⟩
            · rcases mem_addAll hk with hk | hk
              · exact ⟨e, by simp, hb, .inr ⟨c, hg, hk⟩⟩
              · exact up k hk
theorem clsX_ok : ∀ {ops : List Oper} {cls : List (List Nat)} {l : List (Oper × List Nat)}, clsX ops cls = some l →
    l.map Prod.fst = ops ∧ ∀ j o c, l[j]? = some (o, c) → befX ((cls ++ l.map Prod.snd).take (cls.length + j)) o.after.toList = some c
  | [], cls, l, h => by
    obtain rfl := Option.some.inj h
    exact ⟨rfl, fun j o c h => by simp at h⟩
  | o :: ops, cls, l, h => by
    simp only [clsX] at h
    cases hb : befX cls o.after.toList with
    | none => rw [hb] at h; cases h
    | some c =>
      rw [hb] at h
      simp only at h
      cases hr : clsX ops (cls ++ [c]) with
      | none => rw [hr] at h; cases h
      | some l' =>
        rw [hr] at h
        obtain rfl := Option.some.inj h
        obtain ⟨h1, h2⟩ := clsX_ok hr
        refine ⟨by simp [h1], fun j o' c' hj => ?_⟩
        cases j with
        | zero =>
          simp at hj
          obtain ⟨rfl, rfl⟩ := hj
          simpa using hb
        | succ j =>
          have := h2 j o' c' (by simpa using hj)
          simp only [List.map_cons, List.append_assoc, List.cons_append, List.nil_append, List.length_append, List.length_cons, List.length_nil] at this ⊢
          rw [show cls.length + (j + 1) = cls.length + (0 + 1) + j by omega]
          exact this
theorem memO_iff {d : Nat} : ∀ {l : List (Option Nat)}, memO d l = true ↔ some d ∈ l
  | [] => by simp [memO]
  | none :: l => by simp [memO, memO_iff (l := l)]
  | some e :: l => by
    simp only [memO]
    by_cases h : d = e
    · subst h; simp
    · rw [beq_ff h]; simp [h, memO_iff (l := l)]
theorem distinct_ok {nt : Nat} : ∀ {l : List (Option Nat)}, distinct nt l = true → (∀ d, some d ∈ l → d < nt) ∧ l.Pairwise fun x y => ∀ d, x = some d → y ≠ some d
  | [], _ => ⟨(fun _ h => nomatch h), .nil⟩
  | none :: l, h => by
    obtain ⟨h1, h2⟩ := distinct_ok (l := l) h
    exact ⟨fun d hd => h1 d (by simpa using hd), List.pairwise_cons.2 ⟨(fun _ _ _ e => nomatch e), h2⟩⟩
  | some d :: l, h => by
    simp only [distinct] at h
    split at h
    · rename_i hm hlt
      obtain ⟨h1, h2⟩ := distinct_ok (l := l) h
      refine ⟨fun x hx => ?_, List.pairwise_cons.2 ⟨fun y hy x hx => ?_, h2⟩⟩
      · rcases List.mem_cons.1 hx with hx | hx
        · obtain rfl := Option.some.inj hx; exact Nat.le_of_ble_eq_true hlt
        · exact h1 x hx
      · obtain rfl := Option.some.inj hx
        rintro rfl
        rw [memO_iff.2 hy] at hm
        cases hm
    · cases h

section
variable {all : List Oper} {pre : List (Nat × List Nat × Nat)} {tm0 tm : T AV} {h0 : T Bk} {wr : Nat → Bool} {n0 : Nat}
variable {R : List Re} {m nt : Nat} {l : List (Oper × List Nat)}
variable {K : Nat → Prop} {w0 : World} {ρ0 : Rho} {ds : List Deferred}
theorem at_idx (F : Fix P own call all pre tm0 h0 wr n0 R m nt) {i : Nat} (hi : i < R.length) : ∃ later e recs, R = later ++ e :: recs ∧ e.i = i ∧ R.reverse[i]? = some e := by
  have hlt : R.length - 1 - i < R.length := by omega
  refine ⟨R.take (R.length - 1 - i), R[R.length - 1 - i], R.drop (R.length - 1 - i + 1), ?_, ?_, ?_⟩
  · rw [List.getElem_cons_drop, List.take_append_drop]
  · have h : R = R.take (R.length - 1 - i) ++ R[R.length - 1 - i] :: R.drop (R.length - 1 - i + 1) := by rw [List.getElem_cons_drop, List.take_append_drop]
    have hok := F.ok
    rw [h] at hok
    have := hok.split.1.idx
    rw [List.length_drop] at this
    omega
  · rw [List.getElem?_reverse hi, List.getElem?_eq_getElem hlt]
theorem draw_any (hcall : CallOk P call) (F : Fix P own call all pre tm0 h0 wr n0 R m nt) (hl : R.reverse.map (fun e => (e.o, e.c)) = l) (hcls : clsX all [] = some l) {Q : Exit → Act → World → Prop}
    (hfin : ∀ L ρ a w, (∀ x ∈ R, L x.i = true) → Inv tm0 h0 wr n0 R m nt K w0 ρ0 ds L ρ a w → Q .normal a w) :
    ∀ (fuel : Nat) (listed : Array Bool) (todo : List Nat) (ρ : Rho) (a : Act) (w : World), listed.size = all.length → todo.length ≤ fuel → (∀ j, listed.getD j true = false → j ∈ todo) →
      Inv tm0 h0 wr n0 R m nt K w0 ρ0 ds (fun j => listed.getD j false) ρ a w → wpAny P .any all.toArray Q fuel listed a w := by
  obtain ⟨hf, hbef⟩ := clsX_ok hcls
  have hlen : R.length = all.length := by rw [← hf, ← hl]; simp
  have hboth : ∀ (listed : Array Bool) (j : Nat), listed.size = all.length → j < all.length → listed.getD j true = listed.getD j false := fun listed j hs hj => by
    rw [Array.getD_eq_getD_getElem?, Array.getD_eq_getD_getElem?, Array.getElem?_eq_getElem (by omega)]
    rfl
  have hat : ∀ i, i < all.length → ∃ later e recs, R = later ++ e :: recs ∧ e.i = i ∧ all[i]? = some e.o ∧ l[i]? = some (e.o, e.c) := fun i hi => by
    obtain ⟨later, e, recs, h1, h2, h3⟩ := at_idx F (i := i) (by omega)
    have h4 : l[i]? = some (e.o, e.c) := by rw [← hl, List.getElem?_map, h3]; rfl
    exact ⟨later, e, recs, h1, h2, by rw [← hf, List.getElem?_map, h4]; rfl, h4⟩
  have hedge : ∀ i o c, l[i]? = some (o, c) → (∀ e ∈ o.after, Region.binds .any e = true → e.on < i) ∧ ∀ k ∈ c, ∃ e ∈ o.after, Region.binds .any e = true ∧ (k = e.on ∨ ∃ c' o', l[e.on]? = some (o', c') ∧ k ∈ c') := fun i o c h => by
    have h1 := hbef i o c h
    simp only [List.nil_append, List.length_nil, Nat.zero_add] at h1
    obtain ⟨h2, h3⟩ := befX_ok h1
    refine ⟨fun e he hb => ?_, fun k hk => ?_⟩
    · have := h2 e (by simpa using he) hb
      rw [List.length_take] at this
      omega
    · obtain ⟨e, he, hb, h4⟩ := h3 k hk
      refine ⟨e, by simpa using he, hb, h4.imp id fun ⟨c', hc', hk'⟩ => ?_⟩
      rw [List.getElem?_take] at hc'
      split at hc'
      · rw [List.getElem?_map] at hc'
        cases hle : l[e.on]? with
        | none => rw [hle] at hc'; cases hc'
        | some p => rw [hle] at hc'; obtain ⟨o', c''⟩ := p; obtain rfl := Option.some.inj hc'; exact ⟨_, o', rfl, hk'⟩
      · cases hc'
  have hdone : ∀ (listed : Array Bool), listed.size = all.length → Region.ready .any all.toArray listed = [] → ∀ x ∈ R, listed.getD x.i false = true := fun listed hs hr x hx => by
    have key : ∀ i, i < all.length → listed.getD i false = true := fun i => by
      induction i using Nat.strongRecOn with
      | _ i ih =>
        intro hi
        cases hb : listed.getD i false with
        | true => rfl
        | false =>
          obtain ⟨later, e, recs, h1, h2, h3, h4⟩ := hat i hi
          obtain ⟨h5, _⟩ := hedge i _ _ h4
          have : i ∈ Region.ready .any all.toArray listed := mem_ready.2 ⟨by rw [hboth listed i hs hi, hb], e.o, by simpa using h3, fun ed hed hbd => by
            have := h5 ed hed hbd
            exact ih ed.on this (by omega)⟩
          rw [hr] at this
          cases this
    obtain ⟨s1, s2, h⟩ := List.append_of_mem hx
    have hok := F.ok
    rw [h] at hok
    have hi := hok.split.1.idx
    have : R.length = s1.length + (s2.length + 1) := by rw [h]; simp
    exact key x.i (by omega)
  have hready : ∀ (listed : Array Bool) (ρ : Rho) (a : Act) (w : World) (i : Nat), listed.size = all.length → Inv tm0 h0 wr n0 R m nt K w0 ρ0 ds (fun j => listed.getD j false) ρ a w → i ∈ Region.ready .any all.toArray listed →
      wpOp P all.toArray Q i (fun a' w' => ∃ ρ', Inv tm0 h0 wr n0 R m nt K w0 ρ0 ds (fun j => (listed.setIfInBounds i true).getD j false) ρ' a' w') a w := by
    intro listed ρ a w i hs hI hi
    obtain ⟨hun, o, ho, hall⟩ := mem_ready.1 hi
    have hilt : i < all.length := by
      rcases Nat.lt_or_ge i all.length with h | h
      · exact h
      · rw [Array.getElem?_eq_none (by simpa using h)] at ho; cases ho
    obtain ⟨later, e, recs, h1, h2, h3, h4⟩ := hat i hilt
    have hoe : o = e.o := by
      have : all.toArray[i]? = some e.o := by simpa using h3
      rw [this] at ho
      exact (Option.some.inj ho).symm
    subst hoe
    obtain ⟨_, h6⟩ := hedge i _ _ h4
    have hst := Inv.step (L' := fun j => (listed.setIfInBounds i true).getD j false) hcall F hI h1 (by rw [h2, ← hboth listed i hs hilt]; exact hun) (fun k hk => by
      obtain ⟨ed, hed, hbd, hor⟩ := h6 k (mem_iff.1 hk)
      have hLe := hall ed hed hbd
      rcases hor with rfl | ⟨c', o', hc', hk'⟩
      · exact hLe
      · have hlt : ed.on < all.length := by
          rw [← hf, List.length_map]
          exact (List.getElem?_eq_some_iff.1 hc').1
        obtain ⟨later', e', recs', g1, g2, g3, g4⟩ := hat ed.on hlt
        rw [hc'] at g4
        obtain ⟨rfl, rfl⟩ := Prod.mk.inj (Option.some.inj g4)
        exact hI.closed e' (by rw [g1]; simp) (by rw [g2]; exact hLe) k (mem_iff.2 hk')) (by
      rw [h2, Array.getD_eq_getD_getElem?, Array.getElem?_setIfInBounds_self_of_lt (by omega)]; rfl) (fun j hj => by
      rw [h2] at hj
      rw [Array.getD_eq_getD_getElem?, Array.getD_eq_getD_getElem?, Array.getElem?_setIfInBounds_ne (fun h => hj h.symm)]) Q
    unfold wpOp
    simp only [ho]
    split
    · rename_i hw; rw [if_pos hw] at hst; exact .inl hst
    · rename_i hw; rw [if_neg hw] at hst; exact hst
  intro fuel
  induction fuel with
  | zero =>
    intro listed todo ρ a w hs htd hcov hI
    have hnil : todo = [] := List.length_eq_zero_iff.1 (by omega)
    have hr : Region.ready .any all.toArray listed = [] := by
      cases hr : Region.ready .any all.toArray listed with
      | nil => rfl
      | cons i rs =>
        have := (mem_ready.1 (show i ∈ Region.ready .any all.toArray listed by rw [hr]; simp)).1
        have := hcov i this
        rw [hnil] at this
        cases this
    exact ⟨hr, hfin _ ρ a w (hdone listed hs hr) hI⟩
  | succ fuel ih =>
    intro listed todo ρ a w hs htd hcov hI
    refine ⟨fun hr => hfin _ ρ a w (hdone listed hs hr) hI, fun i hi => ?_⟩
    refine wpOp_mono (fun a' w' ⟨ρ', hI'⟩ => ?_) (hready listed ρ a w i hs hI hi)
    have hit := hcov i (mem_ready.1 hi).1
    refine ih _ (todo.erase i) ρ' a' w' (by simpa using hs) (by rw [List.length_erase_of_mem hit]; omega) (fun j hj => ?_) hI'
    by_cases hji : j = i
    · subst hji
      have hlt : j < listed.size := by
        obtain ⟨_, o, ho, _⟩ := mem_ready.1 hi
        rcases Nat.lt_or_ge j all.length with h | h
        · omega
        · rw [Array.getElem?_eq_none (by simpa using h)] at ho; cases ho
      rw [Array.getD_eq_getD_getElem?, Array.getElem?_setIfInBounds_self_of_lt hlt] at hj
      cases hj
    · rw [Array.getD_eq_getD_getElem?, Array.getElem?_setIfInBounds_ne (fun h => hji h.symm), ← Array.getD_eq_getD_getElem?] at hj
      exact (List.mem_erase_of_ne hji).2 (hcov j hj)
end

/-! ### Regions -/
variable {K : Nat → Prop} {w0 w : World} {ρ : Rho} {st : St} {nt : Nat} {tm : T AV} {a : Act}
theorem under_of (h : TR ρ nt tm a) (hs : Sim K w0 ρ st w) : ∀ t v, tm.get t = some v → v.under st.n := fun t v hv => den_below hs.dom (h.2 t v hv)
theorem actT_none : ∀ {R : List Re} {tm : T AV}, actT (fun _ => false) tm R = tm
  | [], _ => rfl
  | e :: R, tm => by simp only [actT, actT_none (R := R)]
theorem actH_none : ∀ {R : List Re} {h : T Bk}, actH (fun _ => false) h R = h
  | [], _ => rfl
  | e :: R, tm => by simp only [actH, actH_none (R := R)]
theorem region_draw_ok (hm : P.follows .mixedOrders = true) (hcall : CallOk P call) {ops : List Oper} {tm' : T AV} {st' : St} (hf : (regionX P own call nt ops true tm st).out = some (tm', st')) (h : TR ρ nt tm a) (hs : Sim K w0 ρ st w) {id : Nat} {Q : Exit → Act → World → Prop}
    (hQ : ∀ ρ' a' w', Ext st.n st'.n ρ ρ' → TR ρ' nt tm' a' → Sim K w0 ρ' st' w' → a'.defers = a.defers → Q .normal a' w') : (Code.region id ops.toArray true).wp P Q a w := by
  unfold regionX at hf
  simp only at hf
  split at hf
  · rename_i l hcls hdst
    obtain ⟨⟨m, R⟩, hr, hf⟩ := VT.out_bind_some hf
    obtain ⟨rfl, rfl⟩ := Prod.mk.inj (Option.some.inj hf)
    obtain ⟨hok, hl⟩ := drawX_ok (n0 := st.n) l [] st.n rfl hr
    simp only [List.reverse_nil, List.map_nil, List.nil_append] at hl
    obtain ⟨hd1, hd2⟩ := distinct_ok hdst
    have hops : R.reverse.map (fun e => e.o.dst) = ops.map (·.dst) := by
      rw [← (clsX_ok hcls).1, ← hl]
      simp [Function.comp_def]
    have F : Fix P own call ops (preX (noDst ops tm) l 0) tm st.h st.wr st.n R m nt := by
      refine ⟨hok, fun k bk hk => ?_, fun k bk hk => ?_, under_of h hs, fun e he d hd => ?_, ?_⟩
      · obtain ⟨x, c, hx, _⟩ := hs.blk k bk hk; exact hs.dom k (by rw [hx]; simp)
      · obtain ⟨x, c, hx, hb, _⟩ := hs.blk k bk hk; exact hb.belows hs.dom
      · refine hd1 d ?_
        rw [← hops]
        exact List.mem_map.2 ⟨e, by simpa using he, hd⟩
      · rw [← hops, List.pairwise_map, List.pairwise_reverse] at hd2
        exact hd2.imp fun h d h1 h2 => h d h2 h1
    refine wp_region_any hm ?_
    refine draw_any hcall F hl hcls (K := K) (w0 := w0) (ρ0 := ρ) (ds := a.defers) (fun L ρ' a' w' hL hI => ?_) _ _ (List.range ops.length) ρ a w.drew (by simp) (by simp) (fun j hj => ?_) ?_
    · have e1 : actT L tm R = actT (fun _ => true) tm R := actT_congr hL
      have e2 : actH L st.h R = actH (fun _ => true) st.h R := actH_congr hL
      refine hQ ρ' a' w' hI.ext (by rw [← e1]; exact hI.tr) (by rw [← e2]; exact hI.sim) hI.ds
    · rw [List.mem_range]
      rcases Nat.lt_or_ge j ops.length with h | h
      · exact h
      · rw [Array.getD_eq_getD_getElem?, Array.getElem?_eq_none (by simpa using h)] at hj; cases hj
    · have hL : (fun j => (Array.replicate ops.toArray.size false).getD j false) = fun _ => false := by
        funext j
        rw [Array.getD_eq_getD_getElem?, Array.getElem?_replicate]
        split <;> rfl
      rw [hL]
      refine ⟨(fun _ _ h => nomatch h), by rw [actT_none]; exact h, ?_, fun e he _ k h1 h2 => ?_, ⟨.refl ρ, fun _ _ => rfl, hok.le⟩, rfl, fun _ _ h => nomatch h⟩
      · rw [actH_none]
        exact hs.drew.less _ (fun _ _ h => h) hok.le fun _ h => h
      · have := (hok.in_ e he).1
        cases hk : ρ k with
        | none => rfl
        | some x => have := hs.dom k (by rw [hk]; simp); omega
  · cases hf

theorem putX_ok {dst : Option Nat} {v : AV} {tm' : T AV} {u : Value} (hf : putX nt dst tm v = some tm') (h : TR ρ nt tm a) (hd : den ρ v u) : TR ρ nt tm' (a.put dst u) := by
  cases dst with
  | none => obtain rfl := Option.some.inj hf; exact h
  | some d =>
    simp only [putX] at hf
    split at hf
    · rename_i hlt
      obtain rfl := Option.some.inj hf
      exact h.put (Nat.le_of_ble_eq_true hlt) hd
    · cases hf
theorem ops_ok (hcall : CallOk P call) {all : List Oper} : ∀ {rest : List Oper} {k : Nat} {tm : T AV} {st : St} {tm' : T AV} {st' : St} {ρ : Rho} {a : Act} {w : World}, all.drop k = rest → (opsX P call nt all rest tm st).out = some (tm', st') → TR ρ nt tm a → Sim K w0 ρ st w → ∀ {Q : Exit → Act → World → Prop},
    (∀ ρ' a' w', Ext st.n st'.n ρ ρ' → TR ρ' nt tm' a' → Sim K w0 ρ' st' w' → a'.defers = a.defers → Q .normal a' w') → wpOps P all.toArray Q (List.range' k rest.length) a w
  | [], k, tm, st, tm', st', ρ, a, w, hd, hf, h, hs, Q, hQ => by
    simp only [opsX, VT.out] at hf
    obtain ⟨rfl, rfl⟩ := Prod.mk.inj (Option.some.inj hf)
    exact hQ ρ a w (.refl _ ρ) h hs rfl
  | o :: rest, k, tm, st, tm', st', ρ, a, w, hd, hf, h, hs, Q, hQ => by
    have hk : all.toArray[k]? = some o := by
      have : (all.drop k)[0]? = some o := by rw [hd]; rfl
      simpa using this
    have hd' : all.drop (k + 1) = rest := by
      have : (all.drop k).drop 1 = rest := by rw [hd]; rfl
      simpa [Nat.add_comm] using this
    simp only [List.length_cons, List.range'_succ, wpOps, hk]
    simp only [opsX] at hf
    split at hf
    · rename_i hw
      rw [if_pos (wantX_ok h hw)]
      obtain ⟨⟨v, st1⟩, h1, hf⟩ := VT.out_bind_some hf
      simp only at hf
      split at hf
      · rename_i tm1 hput
        refine .inl (opX_ok hcall h hs h1 fun u w' ρ' he hs' hdu => ?_)
        refine ops_ok hcall hd' hf (putX_ok hput (h.mono he.le) hdu) hs' fun ρ2 a2 w2 he2 h2 hs2 hdf => ?_
        exact hQ ρ2 a2 w2 (he.trans he2) h2 hs2 (by rw [hdf, put_defers])
      · cases hf
    · rename_i hw
      rw [if_neg (by rw [wantX_ok h hw]; simp)]
      split at hf
      · rename_i tm1 hput
        refine ops_ok hcall hd' hf (putX_ok hput h (by simp only [den])) hs fun ρ2 a2 w2 he2 h2 hs2 hdf => ?_
        exact hQ ρ2 a2 w2 he2 h2 hs2 (by rw [hdf, put_defers])
      · cases hf
    · cases hf
theorem region_ok (hm : P.follows .mixedOrders = true) (hcall : CallOk P call) {ops : Array Oper} {draw : Bool} {tm' : T AV} {st' : St} (hf : (regionX P own call nt ops.toList draw tm st).out = some (tm', st')) (h : TR ρ nt tm a) (hs : Sim K w0 ρ st w) {id : Nat} {Q : Exit → Act → World → Prop}
    (hQ : ∀ ρ' a' w', Ext st.n st'.n ρ ρ' → TR ρ' nt tm' a' → Sim K w0 ρ' st' w' → a'.defers = a.defers → Q .normal a' w') : (Code.region id ops draw).wp P Q a w := by
  cases draw with
  | true => exact region_draw_ok hm hcall hf h hs hQ
  | false =>
    refine wp_region ?_
    have := ops_ok hcall (all := ops.toList) (k := 0) rfl hf h hs hQ
    simpa [List.range_eq_range'] using this
end
end
section
open Go.RowKit
set_option linter.unusedSimpArgs false
set_option linter.unusedVariables false
section
variable {P : Program} {own : Nat → Bool} {call : CallT} {nt : Nat}

/-! ### What may be written to -/
theorem opsX_wr (hc : CallOk P call) {all : List Oper} : ∀ {rest : List Oper} {tm : T AV} {st : St} {tm' : T AV} {st' : St}, (opsX P call nt all rest tm st).out = some (tm', st') → st'.wr = st.wr
  | [], tm, st, tm', st', hf => by
    simp only [opsX, VT.out] at hf
    obtain ⟨rfl, rfl⟩ := Prod.mk.inj (Option.some.inj hf); rfl
  | o :: rest, tm, st, tm', st', hf => by
    simp only [opsX] at hf
    split at hf
    · obtain ⟨⟨v, st1⟩, h1, hf⟩ := VT.out_bind_some hf
      simp only at hf
      split at hf
      · exact (opsX_wr hc hf).trans (opX_wr hc h1)
      · cases hf
    · split at hf
      · exact opsX_wr hc hf
      · cases hf
    · cases hf
theorem regionX_wr (hc : CallOk P call) {ops : List Oper} {draw : Bool} {tm : T AV} {st : St} {tm' : T AV} {st' : St} (hf : (regionX P own call nt ops draw tm st).out = some (tm', st')) : st'.wr = st.wr := by
  unfold regionX at hf
  split at hf
  · exact opsX_wr hc hf
  · split at hf
    · obtain ⟨⟨m, R⟩, hr, hf⟩ := VT.out_bind_some hf
      obtain ⟨_, rfl⟩ := Prod.mk.inj (Option.some.inj hf); rfl
    · cases hf
theorem loopX_wr {body : T AV → St → VT (EX × T AV × St)} (hb : ∀ {tm st ex tm' st'}, (body tm st).out = some (ex, tm', st') → st'.wr = st.wr) : ∀ {n : Nat} {tm : T AV} {st : St} {ex : EX} {tm' : T AV} {st' : St}, (loopX body n tm st).out = some (ex, tm', st') → st'.wr = st.wr
  | 0, _, _, _, _, _, h => nomatch h
  | n + 1, tm, st, ex, tm', st', h => by
    simp only [loopX] at h
    obtain ⟨⟨e1, tm1, st1⟩, h1, h2⟩ := VT.out_bind_some h
    simp only at h2
    split at h2
    · exact (loopX_wr hb h2).trans (hb h1)
    · obtain ⟨_, h3⟩ := Prod.mk.inj (Option.some.inj h2)
      obtain ⟨_, rfl⟩ := Prod.mk.inj h3
      exact hb h1
theorem codeX_wr (hc : CallOk P call) {fuel : Nat} : ∀ (c : Code) {tm : T AV} {st : St} {ex : EX} {tm' : T AV} {st' : St}, (codeX P own call nt fuel c tm st).out = some (ex, tm', st') → st'.wr = st.wr
  | .skip, _, _, _, _, _, h | .label _, _, _, _, _, _, h | .exit _, _, _, _, _, _, h | .ret, _, _, _, _, _, h => by
    simp only [codeX, VT.out] at h
    obtain ⟨_, h⟩ := Prod.mk.inj (Option.some.inj h)
    obtain ⟨_, rfl⟩ := Prod.mk.inj h; rfl
  | .region _ ops draw, _, _, _, _, _, h => by
    simp only [codeX] at h
    obtain ⟨⟨tm1, st1⟩, h1, h⟩ := VT.out_bind_some h
    obtain ⟨_, h⟩ := Prod.mk.inj (Option.some.inj h)
    obtain ⟨rfl, rfl⟩ := Prod.mk.inj h
    exact regionX_wr hc h1
  | .seq x y, _, _, _, _, _, h => by
    simp only [codeX] at h
    obtain ⟨⟨e1, tm1, st1⟩, h1, h⟩ := VT.out_bind_some h
    simp only at h
    split at h
    · exact (codeX_wr hc y h).trans (codeX_wr hc x h1)
    · obtain ⟨_, h⟩ := Prod.mk.inj (Option.some.inj h)
      obtain ⟨_, rfl⟩ := Prod.mk.inj h
      exact codeX_wr hc x h1
  | .cond c x y, _, _, _, _, _, h => by
    simp only [codeX] at h
    split at h
    · exact codeX_wr hc x h
    · exact codeX_wr hc y h
    · rename_i b _
      cases b
      · exact codeX_wr hc y h
      · exact codeX_wr hc x h
    · cases h
  | .block id c, _, _, _, _, _, h => by
    simp only [codeX] at h
    obtain ⟨⟨e1, tm1, st1⟩, h1, h⟩ := VT.out_bind_some h
    have := codeX_wr hc c h1
    simp only at h
    repeat' split at h
    all_goals
      obtain ⟨_, h⟩ := Prod.mk.inj (Option.some.inj h)
      obtain ⟨_, rfl⟩ := Prod.mk.inj h
      exact this
  | .loop c, _, _, _, _, _, h => by
    simp only [codeX] at h
    exact loopX_wr (fun h => codeX_wr hc c h) h
  | .rangeFunc .., _, _, _, _, _, h | .scope _, _, _, _, _, _, h | .goto _, _, _, _, _, _, h | .refuse _, _, _, _, _, _, h => by simp [codeX, VT.out] at h

/-! ### Code -/
def EX.to : EX → Exit
  | .normal => .normal
  | .exit id => .exit id
  | .ret => .ret
theorem ret3 {α β γ : Type} {a a' : α} {b b' : β} {c c' : γ} (h : (VT.ret (a, b, c)).out = some (a', b', c')) : a = a' ∧ b = b' ∧ c = c' := by
  obtain ⟨h1, h2⟩ := Prod.mk.inj (Option.some.inj h)
  exact ⟨h1, Prod.mk.inj h2⟩
theorem code_ok (hm : P.follows .mixedOrders = true) (hc : CallOk P call) {fuel : Nat} {K : Nat → Prop} {w0 : World} : ∀ (c : Code) {tm : T AV} {st : St} {ρ : Rho} {a : Act} {w : World} {ex : EX} {tm' : T AV} {st' : St}, (codeX P own call nt fuel c tm st).out = some (ex, tm', st') → TR ρ nt tm a → Sim K w0 ρ st w → ∀ {Q : Exit → Act → World → Prop},
    (∀ ρ' a' w', Ext st.n st'.n ρ ρ' → TR ρ' nt tm' a' → Sim K w0 ρ' st' w' → a'.defers = a.defers → Q ex.to a' w') → c.wp P Q a w
  | .skip, tm, st, ρ, a, w, ex, tm', st', h, ht, hs, Q, hQ => by
    simp only [codeX] at h
    obtain ⟨rfl, rfl, rfl⟩ := ret3 h
    exact wp_skip (hQ ρ a w (.refl _ ρ) ht hs rfl)
  | .label _, tm, st, ρ, a, w, ex, tm', st', h, ht, hs, Q, hQ => by
    simp only [codeX] at h
    obtain ⟨rfl, rfl, rfl⟩ := ret3 h
    exact wp_label (hQ ρ a w (.refl _ ρ) ht hs rfl)
  | .exit _, tm, st, ρ, a, w, ex, tm', st', h, ht, hs, Q, hQ => by
    simp only [codeX] at h
    obtain ⟨rfl, rfl, rfl⟩ := ret3 h
    exact wp_exit (hQ ρ a w (.refl _ ρ) ht hs rfl)
  | .ret, tm, st, ρ, a, w, ex, tm', st', h, ht, hs, Q, hQ => by
    simp only [codeX] at h
    obtain ⟨rfl, rfl, rfl⟩ := ret3 h
    exact wp_ret (hQ ρ a w (.refl _ ρ) ht hs rfl)
  | .region id ops draw, tm, st, ρ, a, w, ex, tm', st', h, ht, hs, Q, hQ => by
    simp only [codeX] at h
    obtain ⟨⟨tm1, st1⟩, h1, h⟩ := VT.out_bind_some h
    obtain ⟨rfl, rfl, rfl⟩ := ret3 h
    exact region_ok hm hc h1 ht hs hQ
  | .seq x y, tm, st, ρ, a, w, ex, tm', st', h, ht, hs, Q, hQ => by
    simp only [codeX] at h
    obtain ⟨⟨e1, tm1, st1⟩, h1, h⟩ := VT.out_bind_some h
    simp only at h
    refine wp_seq (code_ok hm hc x h1 ht hs fun ρ1 a1 w1 he1 ht1 hs1 hd1 => ?_)
    cases e1 with
    | normal => exact code_ok hm hc y h ht1 hs1 fun ρ2 a2 w2 he2 ht2 hs2 hd2 => hQ ρ2 a2 w2 (he1.trans he2) ht2 hs2 (hd2.trans hd1)
    | exit i =>
      obtain ⟨rfl, rfl, rfl⟩ := ret3 h
      exact hQ ρ1 a1 w1 he1 ht1 hs1 hd1
    | ret =>
      obtain ⟨rfl, rfl, rfl⟩ := ret3 h
      exact hQ ρ1 a1 w1 he1 ht1 hs1 hd1
  | .cond c x y, tm, st, ρ, a, w, ex, tm', st', h, ht, hs, Q, hQ => by
    simp only [codeX] at h
    have hv := ht.ev c
    split at h
    · rename_i he; rw [he] at hv; simp only [den] at hv
      exact wp_cond_true hv (code_ok hm hc x h ht hs hQ)
    · rename_i he; rw [he] at hv; simp only [den] at hv
      exact wp_cond_false hv (code_ok hm hc y h ht hs hQ)
    · rename_i b he; rw [he] at hv; simp only [den] at hv
      cases b
      · exact wp_cond_false hv (code_ok hm hc y h ht hs hQ)
      · exact wp_cond_true hv (code_ok hm hc x h ht hs hQ)
    · cases h
  | .block id c, tm, st, ρ, a, w, ex, tm', st', h, ht, hs, Q, hQ => by
    simp only [codeX] at h
    obtain ⟨⟨e1, tm1, st1⟩, h1, h⟩ := VT.out_bind_some h
    refine wp_block (code_ok hm hc c h1 ht hs fun ρ1 a1 w1 he1 ht1 hs1 hd1 => ?_)
    simp only at h
    cases e1 with
    | normal =>
      obtain ⟨rfl, rfl, rfl⟩ := ret3 h
      exact hQ ρ1 a1 w1 he1 ht1 hs1 hd1
    | ret =>
      obtain ⟨rfl, rfl, rfl⟩ := ret3 h
      exact hQ ρ1 a1 w1 he1 ht1 hs1 hd1
    | exit i =>
      simp only at h
      by_cases hi : i = id
      · subst hi
        rw [Nat.beq_refl] at h
        obtain ⟨rfl, rfl, rfl⟩ := ret3 h
        simp only [EX.to, Exit.inBlock, if_true]
        exact hQ ρ1 a1 w1 he1 ht1 hs1 hd1
      · rw [beq_ff hi] at h
        obtain ⟨rfl, rfl, rfl⟩ := ret3 h
        simp only [EX.to, Exit.inBlock, hi, if_false]
        exact hQ ρ1 a1 w1 he1 ht1 hs1 hd1
  | .loop c, tm, st, ρ, a, w, ex, tm', st', h, ht, hs, Q, hQ => by
    simp only [codeX] at h
    refine wp_loop_rounds fuel ?_
    have key : ∀ (n : Nat) {tm : T AV} {st : St} {ρ : Rho} {a : Act} {w : World}, (loopX (codeX P own call nt fuel c) n tm st).out = some (ex, tm', st') → TR ρ nt tm a → Sim K w0 ρ st w →
        (∀ ρ' a' w', Ext st.n st'.n ρ ρ' → TR ρ' nt tm' a' → Sim K w0 ρ' st' w' → a'.defers = a.defers → Q ex.to a' w') → Code.rounds P c Q n a w := by
      intro n
      induction n with
      | zero => intro tm st ρ a w h; cases h
      | succ n ih =>
        intro tm st ρ a w h ht hs hQ
        simp only [loopX] at h
        obtain ⟨⟨e1, tm1, st1⟩, h1, h⟩ := VT.out_bind_some h
        simp only at h
        rw [rounds_succ]
        refine code_ok hm hc c h1 ht hs fun ρ1 a1 w1 he1 ht1 hs1 hd1 => ?_
        cases e1 with
        | normal => exact ih h ht1 hs1 fun ρ2 a2 w2 he2 ht2 hs2 hd2 => hQ ρ2 a2 w2 (he1.trans he2) ht2 hs2 (hd2.trans hd1)
        | exit i =>
          obtain ⟨rfl, rfl, rfl⟩ := ret3 h
          exact hQ ρ1 a1 w1 he1 ht1 hs1 hd1
        | ret =>
          obtain ⟨rfl, rfl, rfl⟩ := ret3 h
          exact hQ ρ1 a1 w1 he1 ht1 hs1 hd1
    exact key fuel h ht hs hQ
  | .rangeFunc .., _, _, _, _, _, _, _, _, h, _, _, _, _ | .scope _, _, _, _, _, _, _, _, _, h, _, _, _, _ | .goto _, _, _, _, _, _, _, _, _, h, _, _, _, _ | .refuse _, _, _, _, _, _, _, _, _, h, _, _, _, _ => by simp [codeX, VT.out] at h

/-! ### New numbers for what a call has made -/
mutual
theorem den_ren {ρ' ρ2 : Rho} {f : Nat → Option Nat} (hf : ∀ b b', f b = some b' → ρ2 b' = ρ' b) : ∀ {a : AV} {v : Value}, den ρ' a v → den ρ2 (renX f a) v
  | .ptr b off, v, h => by
    simp only [den] at h
    obtain ⟨x, c, e, r⟩ := h
    simp only [renX]
    split
    · rename_i b' hb; simp only [den]; exact ⟨x, c, by rw [hf _ _ hb]; exact e, r⟩
    · simp only [den]
  | .sl b off len cap op, v, h => by
    simp only [den] at h
    obtain ⟨x, c, e, r, r2⟩ := h
    simp only [renX]
    split
    · rename_i b' hb; simp only [den]; exact ⟨x, c, by rw [hf _ _ hb]; exact e, r, r2⟩
    · split
      · rename_i hl
        have hl := Nat.eq_of_beq_eq_true hl
        subst hl
        simp only [den]; exact ⟨_, _, r⟩
      · simp only [den]
  | .mp b, v, h => by
    simp only [den] at h
    obtain ⟨x, c, e, r⟩ := h
    simp only [renX]
    split
    · rename_i b' hb; simp only [den]; exact ⟨x, c, by rw [hf _ _ hb]; exact e, r⟩
    · simp only [den]
  | .fn _ l, v, h => by simp only [den] at h; obtain ⟨vs, e, h⟩ := h; simp only [renX, den]; exact ⟨vs, e, dens_ren hf h⟩
  | .agg l, v, h => by simp only [den] at h; obtain ⟨vs, e, h⟩ := h; simp only [renX, den]; exact ⟨vs, e, dens_ren hf h⟩
  | .tup l, v, h => by simp only [den] at h; obtain ⟨vs, e, h⟩ := h; simp only [renX, den]; exact ⟨vs, e, dens_ren hf h⟩
  | .lit _, _, h => by simpa only [renX, den] using h
  | .sint _ _, _, h => by simpa only [renX, den] using h
  | .sbool _, _, h => by simpa only [renX, den] using h
  | .emp, _, h => by simpa only [renX, den] using h
  | .dead, _, h => by simp only [renX, den]
theorem dens_ren {ρ' ρ2 : Rho} {f : Nat → Option Nat} (hf : ∀ b b', f b = some b' → ρ2 b' = ρ' b) : ∀ {l : List AV} {vs : List Value}, dens ρ' l vs → dens ρ2 (renL f l) vs
  | [], _, h => by simpa only [renL, dens] using h
  | a :: l, _, h => by simp only [dens] at h; obtain ⟨v, vs, e, h1, h2⟩ := h; simp only [renL, dens]; exact ⟨v, vs, e, den_ren hf h1, dens_ren hf h2⟩
end
/-- What the list of what is kept says. -/
structure Kept (h : T Bk) (n0 : Nat) (m : T Nat) (k : Nat) (acc : List (Nat × Nat × Bk)) : Prop where
  le : n0 ≤ k
  mem : ∀ j i bk, (j, i, bk) ∈ acc → h.get i = some bk ∧ n0 ≤ i ∧ n0 ≤ j ∧ j < k ∧ m.get i = some j
  map : ∀ i j, m.get i = some j → ∃ bk, (j, i, bk) ∈ acc
  inj : ∀ j i i' bk bk', (j, i, bk) ∈ acc → (j, i', bk') ∈ acc → i = i'
theorem trip {α β γ : Type} {a a' : α} {b b' : β} {c c' : γ} (h : (a, b, c) = (a', b', c')) : a = a' ∧ b = b' ∧ c = c' := ⟨(Prod.mk.inj h).1, Prod.mk.inj (Prod.mk.inj h).2⟩
theorem keepX_ok {h : T Bk} {n0 : Nat} : ∀ (f : Nat) (l : List Nat) (m : T Nat) (k : Nat) (acc : List (Nat × Nat × Bk)) {m' : T Nat} {k' : Nat} {acc' : List (Nat × Nat × Bk)}, Kept h n0 m k acc → keepX h n0 f l m k acc = (m', k', acc') → Kept h n0 m' k' acc'
  | 0, l, m, k, acc, m', k', acc', hk, he => by
    simp only [keepX] at he
    obtain ⟨e1, e2⟩ := Prod.mk.inj he
    obtain ⟨e3, e4⟩ := Prod.mk.inj e2
    subst e1; subst e3; subst e4
    exact hk
  | f + 1, [], m, k, acc, m', k', acc', hk, he => by
    simp only [keepX] at he
    obtain ⟨e1, e2⟩ := Prod.mk.inj he
    obtain ⟨e3, e4⟩ := Prod.mk.inj e2
    subst e1; subst e3; subst e4
    exact hk
  | f + 1, i :: l, m, k, acc, m', k', acc', hk, he => by
    simp only [keepX] at he
    split at he
    · rename_i bk h1 h2 h3
      have hn : n0 ≤ i := by
        rcases Nat.lt_or_ge i n0 with h | h
        · have : Nat.blt i n0 = true := by simpa [Nat.blt_eq] using h
          rw [this] at h1; cases h1
        · exact h
      refine keepX_ok f _ _ _ _ ⟨Nat.le_succ_of_le hk.le, fun j i' bk' hm => ?_, fun i' j hm => ?_, fun j i1 i2 b1 b2 hm1 hm2 => ?_⟩ he
      · rcases List.mem_cons.1 hm with g | g
        · obtain ⟨rfl, rfl, rfl⟩ := trip g
          exact ⟨h3, hn, hk.le, Nat.lt_succ_self _, by rw [T.get_put, if_pos rfl]⟩
        · obtain ⟨a1, a2, a3, a4, a5⟩ := hk.mem j i' bk' g
          refine ⟨a1, a2, a3, Nat.lt_succ_of_lt a4, ?_⟩
          rw [T.get_put, if_neg (by rintro rfl; rw [h2] at a5; cases a5)]
          exact a5
      · rw [T.get_put] at hm
        split at hm
        · rename_i hi
          subst hi
          exact ⟨bk, by rw [Option.some.inj hm]; simp⟩
        · obtain ⟨bk', hm'⟩ := hk.map i' j hm
          exact ⟨bk', by simp [hm']⟩
      · rcases List.mem_cons.1 hm1 with g1 | g1
        · obtain ⟨rfl, rfl, rfl⟩ := trip g1
          rcases List.mem_cons.1 hm2 with g2 | g2
          · obtain ⟨_, e, _⟩ := trip g2
            exact e.symm
          · have := (hk.mem _ _ _ g2).2.2.2.1; omega
        · rcases List.mem_cons.1 hm2 with g2 | g2
          · obtain ⟨rfl, _⟩ := trip g2
            have := (hk.mem _ _ _ g1).2.2.2.1; omega
          · exact hk.inj j i1 i2 b1 b2 g1 g2
    · exact keepX_ok f l m k acc hk he
theorem setRen_get {f : Nat → Option Nat} : ∀ {acc : List (Nat × Nat × Bk)} {h : T Bk} {j : Nat} {z : Bk}, (setRen f h acc).get j = some z →
    (∃ i bk, (j, i, bk) ∈ acc ∧ z = ⟨bk.ty, renL f bk.cells, bk.op⟩) ∨ ((∀ i bk, (j, i, bk) ∉ acc) ∧ h.get j = some z)
  | [], h, j, z, e => .inr ⟨(fun _ _ h => nomatch h), e⟩
  | (k, i, bk) :: acc, h, j, z, e => by
    simp only [setRen] at e
    rcases setRen_get e with ⟨i', bk', hm, rfl⟩ | ⟨hn, e⟩
    · exact .inl ⟨i', bk', by simp [hm], rfl⟩
    · rw [T.get_put] at e
      split at e
      · rename_i hj
        subst hj
        refine .inl ⟨i, bk, by simp, ?_⟩
        rename_i e'
        exact (Option.some.inj e').symm
      · rename_i hj
        refine .inr ⟨fun i' bk' hm => ?_, e⟩
        rcases List.mem_cons.1 hm with hm | hm
        · exact hj (Prod.mk.inj hm).1
        · exact hn _ _ hm
theorem BkR.ren {ρ' ρ2 : Rho} {f : Nat → Option Nat} (hf : ∀ b b', f b = some b' → ρ2 b' = ρ' b) {w : World} {x c : Nat} {bk : Bk} (h : BkR ρ' w x c bk) : BkR ρ2 w x c ⟨bk.ty, renL f bk.cells, bk.op⟩ := by
  refine ⟨fun hn => ?_, fun hn => ?_⟩
  · obtain ⟨vs, rest, h1, h2⟩ := h.1 hn
    exact ⟨vs, rest, dens_ren hf h1, h2⟩
  · obtain ⟨vs, n', h1, h2⟩ := h.2 hn
    exact ⟨vs, n', dens_ren hf h1, h2⟩
theorem cut_ok {K : Nat → Prop} {w0 w w' : World} {ρ ρ' : Rho} {st st1 st2 : St} {v v2 : AV} {u : Value} (hs : Sim K w0 ρ st w) (hs' : Sim (fun b => b < w.heap.size) w ρ' st1 w') (hwr : st1.wr = fun k => Nat.ble st.n k) (he : Ext st.n st1.n ρ ρ') (hd : den ρ' v u)
    (hcut : cutX st (v, st1) = (v2, st2)) : st2.wr = st.wr ∧ ∃ ρ2, Ext st.n st2.n ρ ρ2 ∧ Sim K w0 ρ2 st2 w' ∧ den ρ2 v2 u := by
  unfold cutX at hcut
  split at hcut
  rename_i m k acc hk
  simp only at hk
  have H := keepX_ok _ _ _ _ _ (h := st1.h) (n0 := st.n) ⟨Nat.le_refl _, (fun _ _ _ h => by cases h), fun i j h => (by rw [T.get_e] at h; cases h), (fun _ _ _ _ _ h => by cases h)⟩ hk
  obtain ⟨rfl, rfl⟩ := Prod.mk.inj hcut
  refine ⟨rfl, fun j => if j < st.n then ρ j else match acc.find? (fun p => Nat.beq p.1 j) with | some p => ρ' p.2.1 | none => none, ?_⟩
  generalize hρ2 : (fun j => if j < st.n then ρ j else match acc.find? (fun p => Nat.beq p.1 j) with | some p => ρ' p.2.1 | none => none : Rho) = ρ2
  have old : ∀ j, j < st.n → ρ2 j = ρ j := fun j hj => by rw [← hρ2]; exact if_pos hj
  have new : ∀ j i bk, (j, i, bk) ∈ acc → ρ2 j = ρ' i := fun j i bk hm => by
    have h3 := (H.mem j i bk hm).2.2.1
    rw [← hρ2]
    simp only
    rw [if_neg (by omega)]
    cases hfd : acc.find? (fun p => Nat.beq p.1 j) with
    | none =>
      have := List.find?_eq_none.1 hfd _ hm
      simp at this
    | some p =>
      obtain ⟨j', i', bk'⟩ := p
      have h1 := List.find?_some hfd
      have h2 := List.mem_of_find?_eq_some hfd
      have h1 := Nat.eq_of_beq_eq_true h1
      simp only at h1
      subst h1
      simp only
      rw [H.inj _ _ _ _ _ hm h2]
  have hle : ρ.le ρ2 := fun j x hx => by rw [old j (hs.dom j (by rw [hx]; simp))]; exact hx
  have hf : ∀ b b', (match Nat.blt b st.n with | true => some b | false => m.get b) = some b' → ρ2 b' = ρ' b := by
    intro b b' h
    split at h
    · rename_i hb
      obtain rfl := Option.some.inj h
      have hb : b < st.n := Nat.le_of_ble_eq_true hb
      rw [old b hb]
      exact (he.same b hb).symm
    · obtain ⟨bk, hm⟩ := H.map _ _ h
      exact new _ _ _ hm
  have hblk : ∀ j z, (setRen (fun i => match Nat.blt i st.n with | true => some i | false => m.get i) st.h acc).get j = some z →
      (∃ i bk x c, (j, i, bk) ∈ acc ∧ st1.h.get i = some bk ∧ ρ' i = some (x, c) ∧ BkR ρ2 w' x c z ∧ w.heap.size ≤ x) ∨ (∃ x c, st.h.get j = some z ∧ ρ j = some (x, c) ∧ BkR ρ2 w' x c z ∧ (st.wr j = true → ¬ K x) ∧ x < w.heap.size) := by
    intro j z hz
    rcases setRen_get hz with ⟨i, bk, hm, rfl⟩ | ⟨_, hz⟩
    · obtain ⟨a1, a2, a3, a4, a5⟩ := H.mem j i bk hm
      obtain ⟨x, c, h1, h2, h3⟩ := hs'.blk i bk a1
      refine .inl ⟨i, bk, x, c, hm, a1, h1, h2.ren hf, ?_⟩
      have := h3 (by rw [hwr]; exact Nat.ble_eq_true_of_le a2)
      exact Nat.le_of_not_lt this
    · obtain ⟨x, c, h1, h2, h3⟩ := hs.blk j z hz
      exact .inr ⟨x, c, hz, h1, h2.mono hle (hs'.kp.block x h2.lt), h3, h2.lt⟩
  refine ⟨⟨hle, fun i hi => old i hi, H.le⟩, ⟨hs.kp.trans (hs'.kp.mono hs.ltw), hs.lt, fun j z hz => ?_, fun i j bi bj x c c' hi hj ei ej => ?_, fun j hj => ?_⟩, den_ren hf hd⟩
  · rcases hblk j z hz with ⟨i, bk, x, c, h1, h2, h3, h4, h5⟩ | ⟨x, c, h1, h2, h3, h4, h5⟩
    · exact ⟨x, c, by rw [new _ _ _ h1]; exact h3, h4, fun _ hK => by have := hs.ltw x hK; omega⟩
    · exact ⟨x, c, hle _ _ h2, h3, h4⟩
  · rcases hblk i bi hi with ⟨i1, b1, x1, c1, p1, p2, p3, _, p5⟩ | ⟨x1, c1, p1, p2, _, _, p5⟩
    · rw [new _ _ _ p1, p3] at ei
      obtain ⟨rfl, rfl⟩ := Prod.mk.inj (Option.some.inj ei)
      rcases hblk j bj hj with ⟨i2, b2, x2, c2, q1, q2, q3, _, q5⟩ | ⟨x2, c2, q1, q2, _, _, q5⟩
      · rw [new _ _ _ q1, q3] at ej
        obtain ⟨rfl, rfl⟩ := Prod.mk.inj (Option.some.inj ej)
        have := hs'.inj i1 i2 b1 b2 _ _ _ p2 q2 p3 q3
        subst this
        have h1 := (H.mem _ _ _ p1).2.2.2.2
        have h2 := (H.mem _ _ _ q1).2.2.2.2
        rw [h1] at h2
        exact Option.some.inj h2
      · rw [hle _ _ q2] at ej
        obtain ⟨rfl, rfl⟩ := Prod.mk.inj (Option.some.inj ej)
        omega
    · rw [hle _ _ p2] at ei
      obtain ⟨rfl, rfl⟩ := Prod.mk.inj (Option.some.inj ei)
      rcases hblk j bj hj with ⟨i2, b2, x2, c2, q1, q2, q3, _, q5⟩ | ⟨x2, c2, q1, q2, _, _, q5⟩
      · rw [new _ _ _ q1, q3] at ej
        obtain ⟨rfl, rfl⟩ := Prod.mk.inj (Option.some.inj ej)
        omega
      · rw [hle _ _ q2] at ej
        obtain ⟨rfl, rfl⟩ := Prod.mk.inj (Option.some.inj ej)
        exact hs.inj i j bi bj _ _ _ p1 q1 p2 q2
  · have := H.le
    show j < k
    by_cases hj1 : j < st.n
    · omega
    · rw [← hρ2] at hj
      simp only [if_neg hj1] at hj
      cases hfd : acc.find? (fun p => Nat.beq p.1 j) with
      | none => rw [hfd] at hj; exact absurd rfl hj
      | some p =>
        obtain ⟨j', i', bk'⟩ := p
        have h1 := List.find?_some hfd
        have h2 := List.mem_of_find?_eq_some hfd
        have h1 := Nat.eq_of_beq_eq_true h1
        simp only at h1
        subst h1
        exact (H.mem _ _ _ h2).2.2.2.1

/-! ### Calls -/
theorem argsX_get : ∀ (l : List AV) (k : Nat) (tm : T AV) (t : Nat), (argsX l k tm).get t = if k ≤ t ∧ t < k + l.length then l[t - k]? else tm.get t
  | [], k, tm, t => by simp only [argsX]; rw [if_neg (by simp)]
  | a :: l, k, tm, t => by
    simp only [argsX]
    rw [argsX_get l (Nat.succ k) _ t, T.get_put]
    simp only [List.length_cons, Nat.succ_eq_add_one]
    by_cases h1 : t = k
    · subst h1
      rw [if_neg (by omega), if_pos rfl, if_pos (by omega)]
      simp
    · by_cases h2 : k + 1 ≤ t ∧ t < k + 1 + l.length
      · rw [if_pos h2, if_pos (by omega)]
        have : t - k = (t - (k + 1)) + 1 := by omega
        rw [this, List.getElem?_cons_succ]
      · rw [if_neg h2, if_neg h1, if_neg (by omega)]
theorem args_ok {ρ : Rho} {args : List AV} {vs : List Value} (hd : dens ρ args vs) (n : Nat) : TR ρ (Nat.add args.length (Nat.sub n args.length)) (argsX args 0 .e) { tmps := vs.toArray ++ Array.replicate (n - vs.toArray.size) undef, defers := [] } := by
  have hl := dens_length hd
  refine ⟨by simp [hl], fun t v h => ?_⟩
  rw [argsX_get] at h
  split at h
  · rename_i ht
    simp only [Nat.sub_zero] at h
    obtain ⟨u, hu, hdu⟩ := dens_get t hd h
    have hlt : t < vs.length := by omega
    have e : (vs.toArray ++ Array.replicate (n - vs.toArray.size) undef).getD t undef = u := by
      rw [Array.getD_eq_getD_getElem?, Array.getElem?_append_left (by simpa using hlt)]
      simp [hu]
    rw [e]
    exact hdu
  · rw [T.get_e] at h; cases h
def resF (tmps : Array Value) : ResultVar → Sem Value
  | .tmp t => pure (tmps.getD t undef)
  | .cell x t => do loadVar t (← asAddr (tmps.getD x undef))
theorem results_eq (fn : Func) (tmps : Array Value) : results fn tmps = (do
    let vs ← fn.results.mapM (resF tmps)
    pure (if h : vs.size = 1 then vs[0] else .tuple vs)) := by
  unfold results
  have : (fun r : ResultVar => (match r with | .tmp t => pure (tmps.getD t undef) | .cell x t => do loadVar t (← asAddr (tmps.getD x undef)) : Sem Value)) = resF tmps := by
    funext r; cases r <;> rfl
  rw [← this]
  rfl
theorem res1_ok {K : Nat → Prop} {w0 w : World} {ρ : Rho} {st : St} {tm : T AV} {a : Act} {r : ResultVar} {v : AV} (h : TR ρ nt tm a) (hs : Sim K w0 ρ st w) (hf : res1 P tm st r = some v) :
    ∃ u, (resF a.tmps r).run P w = .ok u w ∧ den ρ v u := by
  cases r with
  | tmp t => obtain rfl := Option.some.inj hf; exact ⟨_, rfl, h.ev (.tmp t)⟩
  | cell x t =>
    obtain ⟨u, y, e, hr, hd⟩ := loadVar_ok (P := P) (h.ev (.tmp x)) hs hf
    have e : a.tmps.getD x undef = .pointer (some y) := e
    refine ⟨u, ?_, hd⟩
    simp only [resF, e, asAddr, Sem.run_bind, Sem.run_pure, Result.andThen_ok, hr]
theorem resX_ok {K : Nat → Prop} {w0 w : World} {st : St} {fn : Func} {ρ : Rho} {tm : T AV} {a : Act} {v : AV} (h : TR ρ nt tm a) (hs : Sim K w0 ρ st w) (hf : resX P tm st fn.results.toList = some v) : ∃ u, (results fn a.tmps).run P w = .ok u w ∧ den ρ v u := by
  have arr : ∀ {l : List ResultVar}, fn.results.toList = l → fn.results = l.toArray := fun h => by rw [← h]
  unfold resX at hf
  split at hf
  · rename_i he
    obtain rfl := Option.some.inj hf
    exact ⟨_, results_none (arr he) _ _ _, by simp only [den]; exact ⟨[], rfl, by simp only [dens]⟩⟩
  · rename_i r he
    obtain ⟨u, hr, hd⟩ := res1_ok h hs hf
    refine ⟨u, ?_, hd⟩
    rw [results_eq, arr he]
    simp [Sem.run_bind, hr]
  · rename_i r s he
    split at hf
    · rename_i v1 v2 h1 h2
      obtain rfl := Option.some.inj hf
      obtain ⟨u1, r1, d1⟩ := res1_ok h hs h1
      obtain ⟨u2, r2, d2⟩ := res1_ok h hs h2
      refine ⟨.tuple #[u1, u2], ?_, by simp only [den, dens]; exact ⟨_, rfl, u1, _, rfl, d1, u2, _, rfl, d2, rfl⟩⟩
      rw [results_eq, arr he]
      simp [Sem.run_bind, r1, r2]
    · cases hf
  · rename_i r s t he
    split at hf
    · rename_i v1 v2 v3 h1 h2 h3
      obtain rfl := Option.some.inj hf
      obtain ⟨u1, r1, d1⟩ := res1_ok h hs h1
      obtain ⟨u2, r2, d2⟩ := res1_ok h hs h2
      obtain ⟨u3, r3, d3⟩ := res1_ok h hs h3
      refine ⟨.tuple #[u1, u2, u3], ?_, by simp only [den, dens]; exact ⟨_, rfl, u1, _, rfl, d1, u2, _, rfl, d2, u3, _, rfl, d3, rfl⟩⟩
      rw [results_eq, arr he]
      simp [Sem.run_bind, r1, r2, r3]
    · cases hf
  · rename_i r s t x he
    split at hf
    · rename_i v1 v2 v3 v4 h1 h2 h3 h4
      obtain rfl := Option.some.inj hf
      obtain ⟨u1, r1, d1⟩ := res1_ok h hs h1
      obtain ⟨u2, r2, d2⟩ := res1_ok h hs h2
      obtain ⟨u3, r3, d3⟩ := res1_ok h hs h3
      obtain ⟨u4, r4, d4⟩ := res1_ok h hs h4
      refine ⟨.tuple #[u1, u2, u3, u4], ?_, by simp only [den, dens]; exact ⟨_, rfl, u1, _, rfl, d1, u2, _, rfl, d2, u3, _, rfl, d3, u4, _, rfl, d4, rfl⟩⟩
      rw [results_eq, arr he]
      simp [Sem.run_bind, r1, r2, r3, r4]
    · cases hf
  · cases hf
theorem fnInfo_ok {f : FuncId} {fn : Func} {c : Code} (h : fnInfo P f = some (fn, c)) : P.funcs[f]? = some fn ∧ (fn.name == "runtime.NumGoroutine") = false ∧ fn.body = some c := by
  unfold fnInfo at h
  split at h
  · rename_i fn' hfn
    split at h
    · rename_i c' hn hb
      obtain ⟨rfl, rfl⟩ := Prod.mk.inj (Option.some.inj h)
      exact ⟨hfn, hn, hb⟩
    · cases h
  · cases h
theorem call_ok (hm : P.follows .mixedOrders = true) (own : Nat → Bool) (fuel : Nat) : ∀ d, CallOk P (callX P own fuel d)
  | 0 => fun f args st v st' hf => nomatch hf
  | d + 1 => fun f args st v st' hf => by
    have hc := call_ok hm own fuel d
    simp only [callX] at hf
    cases hi : fnInfo P f with
    | none => rw [hi] at hf; cases hf
    | some p =>
      obtain ⟨fn, c⟩ := p
      rw [hi] at hf
      simp only at hf
      obtain ⟨hfn, hname, hbody⟩ := fnInfo_ok hi
      have main : ∀ {st0 : St} {v : AV} {st1 : St}, ((codeX P own (callX P own fuel d) (Nat.add args.length (Nat.sub fn.ntmps args.length)) fuel c (argsX args 0 .e) st0).bind fun r => match r.1 with
          | .exit _ => (.fail 16 none : VT (AV × St))
          | _ => match resX P r.2.1 r.2.2 fn.results.toList with
            | some v => .ret (v, r.2.2)
            | none => .fail (Nat.add 1000 f) none).out = some (v, st1) → st1.wr = st0.wr ∧ ∀ (K : Nat → Prop) (w0 w : World) (ρ : Rho) (vs : List Value), Sim K w0 ρ st0 w → dens ρ args vs →
            Calls P f vs.toArray w fun e w' => ∃ u ρ', e = .returned u ∧ Ext st0.n st1.n ρ ρ' ∧ Sim K w0 ρ' st1 w' ∧ den ρ' v u := by
        intro st0 v st1 h
        obtain ⟨⟨ex, tm1, st2⟩, h1, h⟩ := VT.out_bind_some h
        simp only at h
        have fin : ex.to = .normal ∨ ex.to = .ret → resX P tm1 st2 fn.results.toList = some v ∧ st2 = st1 → st1.wr = st0.wr ∧ ∀ (K : Nat → Prop) (w0 w : World) (ρ : Rho) (vs : List Value), Sim K w0 ρ st0 w → dens ρ args vs →
            Calls P f vs.toArray w fun e w' => ∃ u ρ', e = .returned u ∧ Ext st0.n st1.n ρ ρ' ∧ Sim K w0 ρ' st1 w' ∧ den ρ' v u := by
          rintro hex ⟨hres, rfl⟩
          refine ⟨codeX_wr hc c h1, fun K w0 w ρ vs hs hd => ?_⟩
          refine calls_of_wp hfn hbody (code_ok hm hc c h1 (args_ok hd fn.ntmps) hs fun ρ' a' w' he ht hs' hdf => ?_)
          obtain ⟨u, hr, hdu⟩ := resX_ok ht hs' hres
          rcases hex with hex | hex <;> rw [hex] <;> exact ⟨hdf, u, hr, u, ρ', rfl, he, hs', hdu⟩
        cases ex with
        | exit i => cases h
        | normal =>
          refine fin (.inl rfl) ?_
          simp only at h
          split at h
          · rename_i v' hv
            obtain ⟨rfl, rfl⟩ := Prod.mk.inj (Option.some.inj h)
            exact ⟨hv, rfl⟩
          · cases h
        | ret =>
          refine fin (.inr rfl) ?_
          simp only at h
          split at h
          · rename_i v' hv
            obtain ⟨rfl, rfl⟩ := Prod.mk.inj (Option.some.inj h)
            exact ⟨hv, rfl⟩
          · cases h
      cases ho : own f with
      | true =>
        rw [ho] at hf
        obtain ⟨hw, hcall⟩ := main hf
        exact ⟨hw, ⟨fn, c, hfn, hname, hbody⟩, hcall⟩
      | false =>
        rw [ho] at hf
        simp only at hf
        obtain ⟨⟨v1, st1⟩, h1, hf⟩ := VT.out_bind_some hf
        have hcut := Option.some.inj hf
        obtain ⟨hw, hcall⟩ := main h1
        have hw' : st1.wr = fun k => Nat.ble st.n k := hw
        have hwr : st'.wr = st.wr := by
          have := congrArg (fun p : AV × St => p.2.wr) hcut
          unfold cutX at this
          split at this
          exact this.symm
        refine ⟨hwr, ⟨fn, c, hfn, hname, hbody⟩, fun K w0 w ρ vs hs hd => ?_⟩
        have hs0 : Sim (fun b => b < w.heap.size) w ρ ⟨st.h, st.n, fun k => Nat.ble st.n k⟩ w := ⟨Kp.refl _ w, fun _ h => h, fun i bk hi => by
          obtain ⟨x, c, h1, h2, _⟩ := hs.blk i bk hi
          refine ⟨x, c, h1, h2, fun hle => ?_⟩
          have h3 := hs.dom i (by rw [h1]; simp)
          have h4 := Nat.le_of_ble_eq_true hle
          omega, hs.inj, hs.dom⟩
        refine (hcall _ w w ρ vs hs0 hd).mono ?_
        rintro e w' ⟨u, ρ', rfl, he, hs', hdu⟩
        obtain ⟨_, ρ2, h2, h3, h4⟩ := cut_ok hs hs' hw' he hdu hcut
        exact ⟨u, ρ2, rfl, h2, h3, h4⟩
end
end
end Go.Proofs.YtojddklogigihaaGreatDoor.Sx
