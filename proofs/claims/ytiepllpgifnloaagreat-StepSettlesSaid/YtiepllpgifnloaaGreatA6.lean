/- A library of the proof, and the functions' values and contracts. -/
import Derived.Test.YtiepllpgifnloaaGreatA5
import Derived.Shelf.Slices.In.SortNone
import Derived.Test.YtiepllpgifnloaaGreatProg
import Derived.ProofKit
import Derived.Deep.Slices
import Derived.SizedLaws
set_option linter.unusedSimpArgs false
set_option linter.unusedVariables false
set_option linter.unusedSectionVars false
set_option linter.defProp false
namespace Go.Proofs.YtiepllpgifnloaaGreat.Px
open Go Go.Proofs.YtiepllpgifnloaaGreat.Vx Go.Proofs
set_option maxRecDepth 1000000
set_option maxHeartbeats 0
noncomputable def zBh (a:List Int) (b:List Int) (i0:Int×Unit):Snap:=⟨[(0, .lw 2 2 [] 1 a.length),(1, .lw 4 4 [] 1 b.length),(5,vI (i0.1))],[(1,bV),(2,bT .ro (RT.int IntKind.i64) a 1),(3,bV),(4,bT .ro (RT.int IntKind.i64) b 3)],5⟩
noncomputable def zvL (a:List Int) (b:List Int) (u9:Unit):Snap:=⟨[],[],5⟩
noncomputable def zvM (a:List Int) (b:List Int) (u9:Bool×Unit):Snap:=⟨[(4,vB (u9.1))],[],5⟩
noncomputable def ze9 (a:List Int) (b:List Int) (i0:Int×Unit):(Int×Unit)⊕(Bool×(Unit)×(Bool×Unit)):=bif decide (i0.fst<(a.length:Int)) then bif List.getD a (Int.toNat i0.fst) (0:Int) != List.getD b (Int.toNat i0.fst) (0:Int) then Sum.inr (false,(),false,()) else Sum.inl (IntKind.i64.wrap (i0.fst+(1:Int)),()) else Sum.inr (true,(),false,())
noncomputable def zhf (a:List Int) (b:List Int) (i0:Int×Unit):Bool:=bif decide (i0.fst<(a.length:Int)) then decide ((0:Int)≤i0.fst∧i0.fst<(a.length:Int))&&decide ((0:Int)≤i0.fst∧i0.fst<(b.length:Int)) else true
noncomputable def zpe (a:List Int) (b:List Int):Bool×Unit:=let y1:=zd (ze9 a b) (false,(),false,()) X_N ((0:Int),());
bif (a.length:Int) != (b.length:Int) then (false,()) else bif y1.fst then (true,()) else (y1.snd.snd.fst,())
noncomputable def zpg (a:List Int) (b:List Int):Bool:=bif (a.length:Int) != (b.length:Int) then true else X_wok (ze9 a b) (zhf a b) X_N ((0:Int),())
noncomputable def zhg:=hide zpe
noncomputable def ziL:=hide zpg
theorem zrZ:zhg=zpe:=zb _
theorem zrY:ziL=zpg:=zb _
noncomputable def zDR:Ctr:=zcB [.v false (.list (.int .i64)), .v false (.list (.int .i64))] [.own (.bool)] (uu2 ziL) (uu2 zhg)
noncomputable def zDQ (a:List Int) (b:List Int):Nat→ze5:=fun q=>match q with|0=> .mk [⟨5,none,(.int .i64)⟩] (zBh a b) [⟨.exit 0,[],zvL a b⟩,⟨.ret,[⟨4,none, .bool⟩],zvM a b⟩] (ze9 a b) (zhf a b) (H 0x1000000) (fun (_:Int×Unit)=>fun _=> .no)|_=> .no
theorem zpf:zi Tryz.prog 35 zDR:=zcS Tryz.f35 T0 (congrArg uu2 zrY) (congrArg uu2 zrZ) 5 26 (uu2 zDQ) 0x40000 (fun zz=>zC [(0,(zaP 0 (bd Tryz.f35)))] (by kernel_rfl) ⟨fun _=>⟨by kernel_rfl,zm (by kernel_rfl)⟩,trivial⟩)
noncomputable def znH (a:List Val) (b:List Val) (i0:Int×Unit):Snap:=⟨[(0, .lw 2 2 [] 3 a.length),(1, .lw 4 4 [] 3 b.length),(5,vI (i0.1))],[(1,bV),(2,bT .ro (.st .val) a 1),(3,bV),(4,bT .ro (.st .val) b 3)],5⟩
noncomputable def zlu (a:List Val) (b:List Val) (u9:Unit):Snap:=⟨[],[],5⟩
noncomputable def zlv (a:List Val) (b:List Val) (u9:Bool×Unit):Snap:=⟨[(4,vB (u9.1))],[],5⟩
noncomputable def zbg (a:List Val) (b:List Val) (i0:Int×Unit):(Int×Unit)⊕(Bool×(Unit)×(Bool×Unit)):=let x1:=List.getD b (Int.toNat i0.fst) zjY;
let x2:=List.getD a (Int.toNat i0.fst) zjY;
bif decide (i0.fst<(a.length:Int)) then bif !(x2.kind==x1.kind&&(x2.n==x1.n&&(x2.off==x1.off&&true))) then Sum.inr (false,(),false,()) else Sum.inl (IntKind.i64.wrap (i0.fst+(1:Int)),()) else Sum.inr (true,(),false,())
noncomputable def zci (a:List Val) (b:List Val) (i0:Int×Unit):Bool:=bif decide (i0.fst<(a.length:Int)) then decide ((0:Int)≤i0.fst∧i0.fst<(a.length:Int))&&decide ((0:Int)≤i0.fst∧i0.fst<(b.length:Int)) else true
noncomputable def zfT (a:List Val) (b:List Val):Bool×Unit:=let y1:=zd (zbg a b) (false,(),false,()) X_N ((0:Int),());
bif (a.length:Int) != (b.length:Int) then (false,()) else bif y1.fst then (true,()) else (y1.snd.snd.fst,())
noncomputable def zfU (a:List Val) (b:List Val):Bool:=bif (a.length:Int) != (b.length:Int) then true else X_wok (zbg a b) (zci a b) X_N ((0:Int),())
noncomputable def z9:=hide zfT
noncomputable def zba:=hide zfU
theorem zie:z9=zfT:=zb _
theorem zid:zba=zfU:=zb _
noncomputable def zpx:Ctr:=zcB [.v false (.list (.st .val)), .v false (.list (.st .val))] [.own (.bool)] (uu2 zba) (uu2 z9)
noncomputable def zpw (a:List Val) (b:List Val):Nat→ze5:=fun q=>match q with|0=> .mk [⟨5,none,(.int .i64)⟩] (znH a b) [⟨.exit 0,[],zlu a b⟩,⟨.ret,[⟨4,none, .bool⟩],zlv a b⟩] (zbg a b) (zci a b) (H 0x1000000) (fun (_:Int×Unit)=>fun _=> .no)|_=> .no
theorem zhp:zi Tryz.prog 135 zpx:=zcS Tryz.f135 T0 (congrArg uu2 zid) (congrArg uu2 zie) 5 26 (uu2 zpw) 0x40000 (fun zz=>zC [(0,(zaP 0 (bd Tryz.f135)))] (by kernel_rfl) ⟨fun _=>⟨by kernel_rfl,zm (by kernel_rfl)⟩,trivial⟩)
noncomputable def znK (a:List Frm) (b:List Frm) (i0:Int×Unit):Snap:=⟨[(0, .lw 2 2 [] 9 a.length),(1, .lw 4 4 [] 9 b.length),(5,vI (i0.1))],[(1,bV),(2,bT .ro (.st .frm) a 1),(3,bV),(4,bT .ro (.st .frm) b 3)],5⟩
noncomputable def znL (a:List Frm) (b:List Frm) (i0:Int×Unit) (i2:Int×Unit):Snap:=⟨[(0, .lw 2 2 [] 9 a.length),(1, .lw 4 4 [] 9 b.length),(5,vI i0.fst),(6, .ptr 5 0),(7, .ptr 6 0),(8,vI (i2.1))],[(1,bV),(2,bT .ro (.st .frm) a 1),(3,bV),(4,bT .ro (.st .frm) b 3),(5,bC 134 [vI ((List.getD a (Int.toNat i0.fst) zo).fn),vI ((List.getD a (Int.toNat i0.fst) zo).pc), .lw 2 1 [(Int.toNat i0.fst,2)] 3 (List.length (List.getD a (Int.toNat i0.fst) zo).regs),vI ((List.getD a (Int.toNat i0.fst) zo).dest), .lw 2 1 [(Int.toNat i0.fst,4)] 2 (List.length (List.getD a (Int.toNat i0.fst) zo).defers),vB ((List.getD a (Int.toNat i0.fst) zo).leaving),vI ((List.getD a (Int.toNat i0.fst) zo).result.kind),vI ((List.getD a (Int.toNat i0.fst) zo).result.n),vI ((List.getD a (Int.toNat i0.fst) zo).result.off)]),(6,bC 134 [vI ((List.getD b (Int.toNat i0.fst) zo).fn),vI ((List.getD b (Int.toNat i0.fst) zo).pc), .lw 4 3 [(Int.toNat i0.fst,2)] 3 (List.length (List.getD b (Int.toNat i0.fst) zo).regs),vI ((List.getD b (Int.toNat i0.fst) zo).dest), .lw 4 3 [(Int.toNat i0.fst,4)] 2 (List.length (List.getD b (Int.toNat i0.fst) zo).defers),vB ((List.getD b (Int.toNat i0.fst) zo).leaving),vI ((List.getD b (Int.toNat i0.fst) zo).result.kind),vI ((List.getD b (Int.toNat i0.fst) zo).result.n),vI ((List.getD b (Int.toNat i0.fst) zo).result.off)])],7⟩
noncomputable def zlz (a:List Frm) (b:List Frm) (i0:Int×Unit) (u9:Unit):Snap:=⟨[(0, .lw 2 2 [] 9 a.length),(1, .lw 4 4 [] 9 b.length),(5,vI i0.fst)],[(1,bV),(2,bT .ro (.st .frm) a 1),(3,bV),(4,bT .ro (.st .frm) b 3)],7⟩
noncomputable def zlA (a:List Frm) (b:List Frm) (i0:Int×Unit) (u9:Bool×Unit):Snap:=⟨[(4,vB (u9.1))],[],7⟩
noncomputable def zbj (a:List Frm) (b:List Frm) (i0:Int×Unit) (i2:Int×Unit):(Int×Unit)⊕(Bool×(Unit)×(Bool×Unit)):=let x1:=(↑(List.length (List.getD a (Int.toNat i0.fst) zo).defers):Int);
let x2:=List.getD (List.getD b (Int.toNat i0.fst) zo).defers (Int.toNat i2.fst) zoB;
let x3:=List.getD (List.getD a (Int.toNat i0.fst) zo).defers (Int.toNat i2.fst) zoB;
bif decide (i2.fst<x1) then bif !x3.fn != x2.fn then bif !(z9 x3.args x2.args).fst then Sum.inr (false,(),false,()) else Sum.inl (IntKind.i64.wrap (i2.fst+(1:Int)),()) else Sum.inr (false,(),false,()) else Sum.inr (true,(),false,())
noncomputable def zcl (a:List Frm) (b:List Frm) (i0:Int×Unit) (i2:Int×Unit):Bool:=let x1:=(↑(List.length (List.getD a (Int.toNat i0.fst) zo).defers):Int);
let x2:=(↑(List.length (List.getD b (Int.toNat i0.fst) zo).defers):Int);
let x3:=List.getD (List.getD a (Int.toNat i0.fst) zo).defers (Int.toNat i2.fst) zoB;
let x4:=List.getD (List.getD b (Int.toNat i0.fst) zo).defers (Int.toNat i2.fst) zoB;
bif decide (i2.fst<x1) then decide ((0:Int)≤i2.fst∧i2.fst<x1)&&(decide ((0:Int)≤i2.fst∧i2.fst<x2)&&bif !x3.fn != x4.fn then zba x3.args x4.args else true) else true
noncomputable def zlx (a:List Frm) (b:List Frm) (u9:Unit):Snap:=⟨[],[],5⟩
noncomputable def zly (a:List Frm) (b:List Frm) (u9:Bool×Unit):Snap:=⟨[(4,vB (u9.1))],[],7⟩
noncomputable def zbi (a:List Frm) (b:List Frm) (i0:Int×Unit):(Int×Unit)⊕(Bool×(Unit)×(Bool×Unit)):=let x1:=List.getD b (Int.toNat i0.fst) zo;
let x2:=List.getD a (Int.toNat i0.fst) zo;
let x3:=x1.result;
let x4:=x2.result;
let y1:=zd (zbj a b i0) (false,(),false,()) X_N ((0:Int),());
bif decide (i0.fst<(a.length:Int)) then bif !x2.fn != x1.fn then bif !x2.pc != x1.pc then bif !x2.dest != x1.dest then bif !!x2.leaving==x1.leaving then bif !!(x4.kind==x3.kind&&(x4.n==x3.n&&(x4.off==x3.off&&true))) then bif !!(z9 x2.regs x1.regs).fst then bif (x2.defers.length:Int) != (x1.defers.length:Int) then Sum.inr (false,(),false,()) else bif y1.fst then Sum.inl (IntKind.i64.wrap (i0.fst+(1:Int)),()) else Sum.inr (false,(),y1.snd.snd.fst,()) else Sum.inr (false,(),false,()) else Sum.inr (false,(),false,()) else Sum.inr (false,(),false,()) else Sum.inr (false,(),false,()) else Sum.inr (false,(),false,()) else Sum.inr (false,(),false,()) else Sum.inr (true,(),false,())
noncomputable def zck (a:List Frm) (b:List Frm) (i0:Int×Unit):Bool:=let x1:=List.getD b (Int.toNat i0.fst) zo;
let x2:=List.getD a (Int.toNat i0.fst) zo;
let x3:=x1.result;
let x4:=x2.result;
bif decide (i0.fst<(a.length:Int)) then decide ((0:Int)≤i0.fst∧i0.fst<(a.length:Int))&&(decide ((0:Int)≤i0.fst∧i0.fst<(b.length:Int))&&bif !x2.fn != x1.fn then bif !x2.pc != x1.pc then bif !x2.dest != x1.dest then bif !!x2.leaving==x1.leaving then bif !!(x4.kind==x3.kind&&(x4.n==x3.n&&(x4.off==x3.off&&true))) then zba x2.regs x1.regs&&bif !!(z9 x2.regs x1.regs).fst then bif (x2.defers.length:Int) != (x1.defers.length:Int) then true else X_wok (zbj a b i0) (zcl a b i0) X_N ((0:Int),()) else true else true else true else true else true else true) else true
noncomputable def zfW (a:List Frm) (b:List Frm):Bool×Unit:=let y1:=zd (zbi a b) (false,(),false,()) X_N ((0:Int),());
bif (a.length:Int) != (b.length:Int) then (false,()) else bif y1.fst then (true,()) else (y1.snd.snd.fst,())
noncomputable def zfX (a:List Frm) (b:List Frm):Bool:=bif (a.length:Int) != (b.length:Int) then true else X_wok (zbi a b) (zck a b) X_N ((0:Int),())
noncomputable def zdH:=hide zfW
noncomputable def zdG:=hide zfX
theorem zig:zdH=zfW:=zb _
theorem zif:zdG=zfX:=zb _
noncomputable def zpB:Ctr:=zcB [.v false (.list (.st .frm)), .v false (.list (.st .frm))] [.own (.bool)] (uu2 zdG) (uu2 zdH)
noncomputable def zpA (a:List Frm) (b:List Frm):Nat→ze5:=fun q=>match q with|0=> .mk [⟨5,none,(.int .i64)⟩] (znK a b) [⟨.exit 0,[],zlx a b⟩,⟨.ret,[⟨4,none, .bool⟩],zly a b⟩] (zbi a b) (zck a b) (H 0x41042082082082042082082081082082081082082081082082081082082041082082082081082082082042082082042082082042082081042082082082042082082081082082081082082041082082082081082082082042082081042082082082042082082041082082082000002041041041002040041041002041041002041041002041041002041041000000) (fun (i0:Int×Unit)=>fun q=>match q with|2=> .mk [⟨8,none,(.int .i64)⟩] (znL a b i0) [⟨.exit 2,[],zlz a b i0⟩,⟨.ret,[⟨4,none, .bool⟩],zlA a b i0⟩] (zbj a b i0) (zcl a b i0) (H 0x41042082082082082082082002040041044041041041141041000000) (fun (_:Int×Unit)=>fun _=> .no)|_=> .no)|_=> .no
noncomputable def zpC:TT:=T0.a zhp
theorem zmH:zi Tryz.prog 66 zpB:=zcS Tryz.f66 zpC (congrArg uu2 zif) (congrArg uu2 zig) 5 114 (uu2 zpA) 0x40000 (fun zz=>zC [(0,(zaP 0 (bd Tryz.f66)))] (by kernel_rfl) ⟨fun _=>⟨by kernel_rfl,zC [(2,(zaP 0 (zaP 0 (bd Tryz.f66))))] (by kernel_rfl) ⟨fun _=>⟨by kernel_rfl,zm (by kernel_rfl)⟩,trivial⟩⟩,trivial⟩)
noncomputable def zdB (a:Gor) (b:Gor):Bool×Unit:=bif a.state==b.state then bif a.fault==b.fault then bif a.allocs==b.allocs then ((zdH a.frames b.frames).fst,()) else (false,()) else (false,()) else (false,())
noncomputable def zdC (a:Gor) (b:Gor):Bool:=bif a.state==b.state then bif a.fault==b.fault then bif a.allocs==b.allocs then zdG a.frames b.frames else true else true else true
noncomputable def zcF:=hide zdB
noncomputable def zcE:=hide zdC
theorem zfQ:zcF=zdB:=zb _
theorem zfP:zcE=zdC:=zb _
noncomputable def zlr:Ctr:=zcB [.v false (.st .gor), .v false (.st .gor)] [.own (.bool)] (uu2 zcE) (uu2 zcF)
noncomputable def zls:TT:=T0.a zmH
theorem zj0:zi Tryz.prog 24 zlr:=zcS Tryz.f24 zls (congrArg uu2 zfP) (congrArg uu2 zfQ) 5 31 (fun _=>noA) 0x1082082082082082082082082082082082082082082082082081001041040041041040041041040
noncomputable def zmG (a:List Wtr) (b:List Wtr) (i0:Int×Unit):Snap:=⟨[(0, .lw 2 2 [] 5 a.length),(1, .lw 4 4 [] 5 b.length),(5,vI (i0.1))],[(1,bV),(2,bT .ro (.st .wtr) a 1),(3,bV),(4,bT .ro (.st .wtr) b 3)],5⟩
noncomputable def zkz (a:List Wtr) (b:List Wtr) (u9:Unit):Snap:=⟨[],[],5⟩
noncomputable def zkA (a:List Wtr) (b:List Wtr) (u9:Bool×Unit):Snap:=⟨[(4,vB (u9.1))],[],5⟩
noncomputable def zaZ (a:List Wtr) (b:List Wtr) (i0:Int×Unit):(Int×Unit)⊕(Bool×(Unit)×(Bool×Unit)):=let x1:=List.getD b (Int.toNat i0.fst) zMS;
let x2:=List.getD a (Int.toNat i0.fst) zMS;
let x3:=x2.val;
let x4:=x1.val;
bif decide (i0.fst<(a.length:Int)) then bif !(x2.g==x1.g&&(x2.case_==x1.case_&&(x3.kind==x4.kind&&(x3.n==x4.n&&(x3.off==x4.off&&true))&&true))) then Sum.inr (false,(),false,()) else Sum.inl (IntKind.i64.wrap (i0.fst+(1:Int)),()) else Sum.inr (true,(),false,())
noncomputable def zbK (a:List Wtr) (b:List Wtr) (i0:Int×Unit):Bool:=bif decide (i0.fst<(a.length:Int)) then decide ((0:Int)≤i0.fst∧i0.fst<(a.length:Int))&&decide ((0:Int)≤i0.fst∧i0.fst<(b.length:Int)) else true
noncomputable def zeQ (a:List Wtr) (b:List Wtr):Bool×Unit:=let y1:=zd (zaZ a b) (false,(),false,()) X_N ((0:Int),());
bif (a.length:Int) != (b.length:Int) then (false,()) else bif y1.fst then (true,()) else (y1.snd.snd.fst,())
noncomputable def zeR (a:List Wtr) (b:List Wtr):Bool:=bif (a.length:Int) != (b.length:Int) then true else X_wok (zaZ a b) (zbK a b) X_N ((0:Int),())
noncomputable def zbh:=hide zeQ
noncomputable def zcj:=hide zeR
theorem zhr:zbh=zeQ:=zb _
theorem zhq:zcj=zeR:=zb _
noncomputable def znJ:Ctr:=zcB [.v false (.list (.st .wtr)), .v false (.list (.st .wtr))] [.own (.bool)] (uu2 zcj) (uu2 zbh)
noncomputable def znI (a:List Wtr) (b:List Wtr):Nat→ze5:=fun q=>match q with|0=> .mk [⟨5,none,(.int .i64)⟩] (zmG a b) [⟨.exit 0,[],zkz a b⟩,⟨.ret,[⟨4,none, .bool⟩],zkA a b⟩] (zaZ a b) (zbK a b) (H 0x1000000) (fun (_:Int×Unit)=>fun _=> .no)|_=> .no
theorem zlw:zi Tryz.prog 226 znJ:=zcS Tryz.f226 T0 (congrArg uu2 zhq) (congrArg uu2 zhr) 5 26 (uu2 znI) 0x40000 (fun zz=>zC [(0,(zaP 0 (bd Tryz.f226)))] (by kernel_rfl) ⟨fun _=>⟨by kernel_rfl,zm (by kernel_rfl)⟩,trivial⟩)
noncomputable def zfR (a:Ob) (b:Ob):Bool×Unit:=bif a.id==b.id then bif (z9 a.cells_ b.cells_).fst then bif a.chan==b.chan then bif a.cap==b.cap then bif (z9 a.queue b.queue).fst then bif a.closed==b.closed then bif a.sent==b.sent then bif a.received==b.received then bif (zbh a.senders b.senders).fst then ((zbh a.receivers b.receivers).fst,()) else (false,()) else (false,()) else (false,()) else (false,()) else (false,()) else (false,()) else (false,()) else (false,()) else (false,())
noncomputable def zfS (a:Ob) (b:Ob):Bool:=bif a.id==b.id then zba a.cells_ b.cells_&&bif (z9 a.cells_ b.cells_).fst then bif a.chan==b.chan then bif a.cap==b.cap then zba a.queue b.queue&&bif (z9 a.queue b.queue).fst then bif a.closed==b.closed then bif a.sent==b.sent then bif a.received==b.received then zcj a.senders b.senders&&bif (zbh a.senders b.senders).fst then zcj a.receivers b.receivers else true else true else true else true else true else true else true else true else true
noncomputable def zdE:=hide zfR
noncomputable def zdD:=hide zfS
theorem zic:zdE=zfR:=zb _
theorem zib:zdD=zfS:=zb _
noncomputable def zpt:Ctr:=zcB [.v false (.st .ob), .v false (.st .ob)] [.own (.bool)] (uu2 zdD) (uu2 zdE)
noncomputable def zpu:TT:=(T0.a zhp).a zlw
theorem zmC:zi Tryz.prog 136 zpt:=zcS Tryz.f136 zpu (congrArg uu2 zib) (congrArg uu2 zic) 17 73 (fun _=>noA) 0x42082082082082082082082082082082082082082082082082082082082082082082082082082082082082082082082082082082082082082082082082082082082082082082082082082082082082082082082082082082082082082082082082082082082082082082082082082082082082082082082082082082082082082082082082082082082082082082082082082082082082082082082082082082082082082082082082082082082082082082082082082082082082082082082082082082040041041001001041040041041040041041040041041040040041041001041041001041041001001041040
noncomputable def zmD (a:List Ob) (b:List Ob) (i0:Int×Unit):Snap:=⟨[(0, .lw 2 2 [] 10 a.length),(1, .lw 4 4 [] 10 b.length),(5,vI (i0.1))],[(1,bV),(2,bT .ro (.st .ob) a 1),(3,bV),(4,bT .ro (.st .ob) b 3)],5⟩
noncomputable def zkx (a:List Ob) (b:List Ob) (u9:Unit):Snap:=⟨[],[],5⟩
noncomputable def zky (a:List Ob) (b:List Ob) (u9:Bool×Unit):Snap:=⟨[(4,vB (u9.1))],[],5⟩
noncomputable def zaY (a:List Ob) (b:List Ob) (i0:Int×Unit):(Int×Unit)⊕(Bool×(Unit)×(Bool×Unit)):=bif decide (i0.fst<(a.length:Int)) then bif !(zdE (List.getD a (Int.toNat i0.fst) dOb) (List.getD b (Int.toNat i0.fst) dOb)).fst then Sum.inr (false,(),false,()) else Sum.inl (IntKind.i64.wrap (i0.fst+(1:Int)),()) else Sum.inr (true,(),false,())
noncomputable def zbI (a:List Ob) (b:List Ob) (i0:Int×Unit):Bool:=bif decide (i0.fst<(a.length:Int)) then decide ((0:Int)≤i0.fst∧i0.fst<(a.length:Int))&&(decide ((0:Int)≤i0.fst∧i0.fst<(b.length:Int))&&zdD (List.getD a (Int.toNat i0.fst) dOb) (List.getD b (Int.toNat i0.fst) dOb)) else true
noncomputable def zeO (a:List Ob) (b:List Ob):Bool×Unit:=let y1:=zd (zaY a b) (false,(),false,()) X_N ((0:Int),());
bif (a.length:Int) != (b.length:Int) then (false,()) else bif y1.fst then (true,()) else (y1.snd.snd.fst,())
noncomputable def zeP (a:List Ob) (b:List Ob):Bool:=bif (a.length:Int) != (b.length:Int) then true else X_wok (zaY a b) (zbI a b) X_N ((0:Int),())
noncomputable def zch:=hide zeO
noncomputable def zdf:=hide zeP
theorem zho:zch=zeO:=zb _
theorem zhn:zdf=zeP:=zb _
noncomputable def znE:Ctr:=zcB [.v false (.list (.st .ob)), .v false (.list (.st .ob))] [.own (.bool)] (uu2 zdf) (uu2 zch)
noncomputable def znD (a:List Ob) (b:List Ob):Nat→ze5:=fun q=>match q with|0=> .mk [⟨5,none,(.int .i64)⟩] (zmD a b) [⟨.exit 0,[],zkx a b⟩,⟨.ret,[⟨4,none, .bool⟩],zky a b⟩] (zaY a b) (zbI a b) (H 0x40000000) (fun (_:Int×Unit)=>fun _=> .no)|_=> .no
noncomputable def znF:TT:=T0.a zmC
theorem zlt:zi Tryz.prog 68 znE:=zcS Tryz.f68 znF (congrArg uu2 zhn) (congrArg uu2 zho) 5 27 (uu2 znD) 0x40000 (fun zz=>zC [(0,(zaP 0 (bd Tryz.f68)))] (by kernel_rfl) ⟨fun _=>⟨by kernel_rfl,zm (by kernel_rfl)⟩,trivial⟩)
noncomputable def zpv (a:List Syn) (b:List Syn) (i0:Int×Unit):Snap:=⟨[(0, .lw 2 2 [] 6 a.length),(1, .lw 4 4 [] 6 b.length),(5,vI (i0.1))],[(1,bV),(2,bT .ro (.st .syn) a 1),(3,bV),(4,bT .ro (.st .syn) b 3)],5⟩
noncomputable def zmE (a:List Syn) (b:List Syn) (u9:Unit):Snap:=⟨[],[],5⟩
noncomputable def zmF (a:List Syn) (b:List Syn) (u9:Bool×Unit):Snap:=⟨[(4,vB (u9.1))],[],7⟩
noncomputable def zbJ (a:List Syn) (b:List Syn) (i0:Int×Unit):(Int×Unit)⊕(Bool×(Unit)×(Bool×Unit)):=let x1:=List.getD a (Int.toNat i0.fst) zzk;
let x2:=List.getD b (Int.toNat i0.fst) zzk;
bif decide (i0.fst<(a.length:Int)) then bif !x1.obj != x2.obj then bif !x1.off != x2.off then bif !x1.kind != x2.kind then bif !x1.owner != x2.owner then bif !x1.count_ != x2.count_ then bif !(zhg x1.readers x2.readers).fst then Sum.inr (false,(),false,()) else Sum.inl (IntKind.i64.wrap (i0.fst+(1:Int)),()) else Sum.inr (false,(),false,()) else Sum.inr (false,(),false,()) else Sum.inr (false,(),false,()) else Sum.inr (false,(),false,()) else Sum.inr (false,(),false,()) else Sum.inr (true,(),false,())
noncomputable def zcK (a:List Syn) (b:List Syn) (i0:Int×Unit):Bool:=let x1:=List.getD a (Int.toNat i0.fst) zzk;
let x2:=List.getD b (Int.toNat i0.fst) zzk;
bif decide (i0.fst<(a.length:Int)) then decide ((0:Int)≤i0.fst∧i0.fst<(a.length:Int))&&(decide ((0:Int)≤i0.fst∧i0.fst<(b.length:Int))&&bif !x1.obj != x2.obj then bif !x1.off != x2.off then bif !x1.kind != x2.kind then bif !x1.owner != x2.owner then bif !x1.count_ != x2.count_ then ziL x1.readers x2.readers else true else true else true else true else true) else true
noncomputable def zgB (a:List Syn) (b:List Syn):Bool×Unit:=let y1:=zd (zbJ a b) (false,(),false,()) X_N ((0:Int),());
bif (a.length:Int) != (b.length:Int) then (false,()) else bif y1.fst then (true,()) else (y1.snd.snd.fst,())
noncomputable def zgC (a:List Syn) (b:List Syn):Bool:=bif (a.length:Int) != (b.length:Int) then true else X_wok (zbJ a b) (zcK a b) X_N ((0:Int),())
noncomputable def zdb:=hide zgB
noncomputable def zej:=hide zgC
theorem ziT:zdb=zgB:=zb _
theorem ziS:zej=zgC:=zb _
noncomputable def zqV:Ctr:=zcB [.v false (.list (.st .syn)), .v false (.list (.st .syn))] [.own (.bool)] (uu2 zej) (uu2 zdb)
noncomputable def zqU (a:List Syn) (b:List Syn):Nat→ze5:=fun q=>match q with|0=> .mk [⟨5,none,(.int .i64)⟩] (zpv a b) [⟨.exit 0,[],zmE a b⟩,⟨.ret,[⟨4,none, .bool⟩],zmF a b⟩] (zbJ a b) (zcK a b) (H 0x41042082082081082082081082082081082082081082082041082082082042082082042082082042082081042082082081082082081082082041082082082042082081042082082002040041041002041041002041041002041041002041041000000) (fun (_:Int×Unit)=>fun _=> .no)|_=> .no
noncomputable def zqW:TT:=T0.a zpf
theorem znG:zi Tryz.prog 69 zqV:=zcS Tryz.f69 zqW (congrArg uu2 ziS) (congrArg uu2 ziT) 5 68 (uu2 zqU) 0x40000 (fun zz=>zC [(0,(zaP 0 (bd Tryz.f69)))] (by kernel_rfl) ⟨fun _=>⟨by kernel_rfl,zm (by kernel_rfl)⟩,trivial⟩)
noncomputable def zBs (a:Mac) (b:Mac) (i0:Int×Unit):Snap:=⟨[(2, .ptr 17 0),(3, .ptr 18 0),(5,vI (i0.1))],[(1,bV),(2,bT .ro (.st .ob) a.objects 1),(3,bV),(4,bT .ro (.st .syn) a.syncs 3),(5,bV),(6,bT .ro (.st .gor) a.goroutines 5),(7,bV),(8,bT .ro (RT.int IntKind.i64) a.output 7),(9,bV),(10,bT .ro (.st .ob) b.objects 9),(11,bV),(12,bT .ro (.st .syn) b.syncs 11),(13,bV),(14,bT .ro (.st .gor) b.goroutines 13),(15,bV),(16,bT .ro (RT.int IntKind.i64) b.output 15),(17,bC 38 [.lw 2 2 [] 10 a.objects.length, .lw 4 4 [] 6 a.syncs.length, .lw 6 6 [] 4 a.goroutines.length, .lw 8 8 [] 1 a.output.length]),(18,bC 38 [.lw 10 10 [] 10 b.objects.length, .lw 12 12 [] 6 b.syncs.length, .lw 14 14 [] 4 b.goroutines.length, .lw 16 16 [] 1 b.output.length])],19⟩
noncomputable def zvZ (a:Mac) (b:Mac) (u9:Unit):Snap:=⟨[],[],19⟩
noncomputable def zv0 (a:Mac) (b:Mac) (u9:Bool×Unit):Snap:=⟨[(4,vB (u9.1))],[],19⟩
noncomputable def zfd (a:Mac) (b:Mac) (i0:Int×Unit):(Int×Unit)⊕(Bool×(Unit)×(Bool×Unit)):=bif decide (i0.fst<(a.goroutines.length:Int)) then bif !(zcF (List.getD a.goroutines (Int.toNat i0.fst) zan) (List.getD b.goroutines (Int.toNat i0.fst) zan)).fst then Sum.inr (false,(),false,()) else Sum.inl (IntKind.i64.wrap (i0.fst+(1:Int)),()) else Sum.inr (true,(),false,())
noncomputable def zhs (a:Mac) (b:Mac) (i0:Int×Unit):Bool:=bif decide (i0.fst<(a.goroutines.length:Int)) then decide ((0:Int)≤i0.fst∧i0.fst<(a.goroutines.length:Int))&&(decide ((0:Int)≤i0.fst∧i0.fst<(b.goroutines.length:Int))&&zcE (List.getD a.goroutines (Int.toNat i0.fst) zan) (List.getD b.goroutines (Int.toNat i0.fst) zan)) else true
noncomputable def zpy (a:Mac) (b:Mac):Bool×Unit:=let y1:=zd (zfd a b) (false,(),false,()) X_N ((0:Int),());
bif !!(zch a.objects b.objects).fst then bif !!(zdb a.syncs b.syncs).fst then bif !!(zhg a.output b.output).fst then bif (a.goroutines.length:Int) != (b.goroutines.length:Int) then (false,()) else bif y1.fst then (true,()) else (y1.snd.snd.fst,()) else (false,()) else (false,()) else (false,())
noncomputable def zpz (a:Mac) (b:Mac):Bool:=zdf a.objects b.objects&&bif !!(zch a.objects b.objects).fst then zej a.syncs b.syncs&&bif !!(zdb a.syncs b.syncs).fst then ziL a.output b.output&&bif !!(zhg a.output b.output).fst then bif (a.goroutines.length:Int) != (b.goroutines.length:Int) then true else X_wok (zfd a b) (zhs a b) X_N ((0:Int),()) else true else true else true
noncomputable def zdF:=hide zpy
noncomputable def zfV:=hide zpz
theorem zr9:zdF=zpy:=zb _
theorem zr8:zfV=zpz:=zb _
noncomputable def zD3:Ctr:=zcB [.v false (.st .mac), .v false (.st .mac)] [.own (.bool)] (uu2 zfV) (uu2 zdF)
noncomputable def zD2 (a:Mac) (b:Mac):Nat→ze5:=fun q=>match q with|0=> .mk [⟨5,none,(.int .i64)⟩] (zBs a b) [⟨.exit 0,[],zvZ a b⟩,⟨.ret,[⟨4,none, .bool⟩],zv0 a b⟩] (zfd a b) (zhs a b) (H 0x40000000) (fun (_:Int×Unit)=>fun _=> .no)|_=> .no
noncomputable def zD4:TT:=(((T0.a zpf).a zj0).a zlt).a znG
theorem zyf:zi Tryz.prog 26 zD3:=zcS Tryz.f26 zD4 (congrArg uu2 zr8) (congrArg uu2 zr9) 17 56 (uu2 zD2) 0x41042082082082042082082081082082081042082082082042082082041082082082000002041041041002040041041002040041041000 (fun zz=>zC [(0,(zaP 0 (bd Tryz.f26)))] (by kernel_rfl) ⟨fun _=>⟨by kernel_rfl,zm (by kernel_rfl)⟩,trivial⟩)
noncomputable def zmw (a:Int):ByteArray×Unit:=bif a==(1:Int) then (ByteArray.mk #[(100:UInt8),(105:UInt8),(45:UInt8)],()) else bif a==(2:Int) then (ByteArray.mk #[(100:UInt8),(45:UInt8),(45:UInt8)],()) else bif a==(3:Int) then (ByteArray.mk #[(100:UInt8),(114:UInt8),(45:UInt8)],()) else bif a==(9:Int) then (ByteArray.mk #[(100:UInt8),(114:UInt8),(45:UInt8)],()) else bif a==(10:Int) then (ByteArray.mk #[(100:UInt8),(114:UInt8),(45:UInt8)],()) else bif a==(15:Int) then (ByteArray.mk #[(100:UInt8),(114:UInt8),(45:UInt8)],()) else bif a==(22:Int) then (ByteArray.mk #[(100:UInt8),(114:UInt8),(45:UInt8)],()) else bif a==(23:Int) then (ByteArray.mk #[(100:UInt8),(114:UInt8),(45:UInt8)],()) else bif a==(33:Int) then (ByteArray.mk #[(100:UInt8),(114:UInt8),(45:UInt8)],()) else bif a==(35:Int) then (ByteArray.mk #[(100:UInt8),(114:UInt8),(45:UInt8)],()) else bif a==(4:Int) then (ByteArray.mk #[(100:UInt8),(114:UInt8),(114:UInt8)],()) else bif a==(5:Int) then (ByteArray.mk #[(100:UInt8),(114:UInt8),(114:UInt8)],()) else bif a==(6:Int) then (ByteArray.mk #[(100:UInt8),(114:UInt8),(114:UInt8)],()) else bif a==(7:Int) then (ByteArray.mk #[(100:UInt8),(114:UInt8),(114:UInt8)],()) else bif a==(8:Int) then (ByteArray.mk #[(100:UInt8),(114:UInt8),(114:UInt8)],()) else bif a==(11:Int) then (ByteArray.mk #[(100:UInt8),(114:UInt8),(114:UInt8)],()) else bif a==(12:Int) then (ByteArray.mk #[(100:UInt8),(114:UInt8),(114:UInt8)],()) else bif a==(13:Int) then (ByteArray.mk #[(100:UInt8),(114:UInt8),(114:UInt8)],()) else bif a==(14:Int) then (ByteArray.mk #[(100:UInt8),(114:UInt8),(114:UInt8)],()) else bif a==(20:Int) then (ByteArray.mk #[(100:UInt8),(114:UInt8),(114:UInt8)],()) else bif a==(37:Int) then (ByteArray.mk #[(100:UInt8),(114:UInt8),(114:UInt8)],()) else bif a==(38:Int) then (ByteArray.mk #[(100:UInt8),(114:UInt8),(114:UInt8)],()) else bif a==(16:Int) then (ByteArray.mk #[(45:UInt8),(45:UInt8),(106:UInt8)],()) else bif a==(17:Int) then (ByteArray.mk #[(114:UInt8),(45:UInt8),(106:UInt8)],()) else bif a==(45:Int) then (ByteArray.mk #[(114:UInt8),(45:UInt8),(106:UInt8)],()) else bif a==(18:Int) then (ByteArray.mk #[(100:UInt8),(103:UInt8),(45:UInt8)],()) else bif a==(19:Int) then (ByteArray.mk #[(100:UInt8),(114:UInt8),(110:UInt8)],()) else bif a==(21:Int) then (ByteArray.mk #[(100:UInt8),(108:UInt8),(45:UInt8)],()) else bif a==(24:Int) then (ByteArray.mk #[(100:UInt8),(49:UInt8),(110:UInt8)],()) else bif a==(25:Int) then (ByteArray.mk #[(100:UInt8),(110:UInt8),(45:UInt8)],()) else bif a==(26:Int) then (ByteArray.mk #[(68:UInt8),(102:UInt8),(97:UInt8)],()) else bif a==(28:Int) then (ByteArray.mk #[(45:UInt8),(102:UInt8),(97:UInt8)],()) else bif a==(31:Int) then (ByteArray.mk #[(45:UInt8),(102:UInt8),(97:UInt8)],()) else bif a==(30:Int) then (ByteArray.mk #[(82:UInt8),(45:UInt8),(45:UInt8)],()) else bif a==(34:Int) then (ByteArray.mk #[(114:UInt8),(114:UInt8),(45:UInt8)],()) else bif a==(36:Int) then (ByteArray.mk #[(114:UInt8),(114:UInt8),(45:UInt8)],()) else bif a==(43:Int) then (ByteArray.mk #[(114:UInt8),(114:UInt8),(45:UInt8)],()) else bif a==(47:Int) then (ByteArray.mk #[(114:UInt8),(114:UInt8),(45:UInt8)],()) else bif a==(27:Int) then (ByteArray.mk #[(114:UInt8),(45:UInt8),(45:UInt8)],()) else bif a==(29:Int) then (ByteArray.mk #[(114:UInt8),(45:UInt8),(45:UInt8)],()) else bif a==(32:Int) then (ByteArray.mk #[(114:UInt8),(45:UInt8),(45:UInt8)],()) else bif a==(39:Int) then (ByteArray.mk #[(114:UInt8),(45:UInt8),(45:UInt8)],()) else bif a==(40:Int) then (ByteArray.mk #[(114:UInt8),(45:UInt8),(45:UInt8)],()) else bif a==(41:Int) then (ByteArray.mk #[(114:UInt8),(45:UInt8),(45:UInt8)],()) else bif a==(42:Int) then (ByteArray.mk #[(114:UInt8),(45:UInt8),(45:UInt8)],()) else bif a==(44:Int) then (ByteArray.mk #[(114:UInt8),(45:UInt8),(45:UInt8)],()) else bif a==(46:Int) then (ByteArray.mk #[(114:UInt8),(45:UInt8),(45:UInt8)],()) else bif a==(49:Int) then (ByteArray.mk #[(114:UInt8),(45:UInt8),(45:UInt8)],()) else bif a==(52:Int) then (ByteArray.mk #[(114:UInt8),(45:UInt8),(45:UInt8)],()) else bif a==(48:Int) then (ByteArray.mk #[(68:UInt8),(114:UInt8),(68:UInt8)],()) else bif a==(50:Int) then (ByteArray.mk #[(100:UInt8),(115:UInt8),(98:UInt8)],()) else bif a==(51:Int) then (ByteArray.mk #[(114:UInt8),(98:UInt8),(99:UInt8)],()) else (ByteArray.mk #[],())
noncomputable def zr0 (a:Int):Bool:=true
noncomputable def zdn:=hide zmw
noncomputable def zhh:=hide zr0
theorem zbt:zdn=zmw:=zb _
theorem zkt:zhh=zr0:=zb _
noncomputable def zBi:Ctr:=zcB [.v false (.int .i64)] [.own (.str)] (uu1 zhh) (uu1 zdn)
theorem zvN:zi Tryz.prog 170 zBi:=zcS Tryz.f170 T0 (congrArg uu1 zkt) (congrArg uu1 zbt) 1 75 (fun _=>noA) 0x40000001001001001001001001001001001000040040040000040000000000001000001001001001001001001001001001001000040040040040040040040000
noncomputable def ziN (a:Prg) (b:Fnc) (c:Ins) (d:Int) (e:Int):Bool×Unit:=let x1:=decide (e≥(0:Int));
let x2:=IntKind.i64.wrap (b.regs - (List.getD a.funcs (Int.toNat e) dFnc).params);
let x3:=decide (e<(a.funcs.length:Int));
let x4:=decide (e≥(-1:Int));
bif d==(100:Int) then bif x1 then (decide (e<b.regs),()) else (false,()) else bif d==(114:Int) then bif x1 then (decide (e<b.regs),()) else (false,()) else bif d==(68:Int) then bif x4 then (decide (e<b.regs),()) else (false,()) else bif d==(82:Int) then bif x4 then (decide (e<b.regs),()) else (false,()) else bif d==(110:Int) then bif x1 then (decide (e≤(64:Int)),()) else (false,()) else bif d==(106:Int) then bif x1 then bif decide (e<(b.code.length:Int)) then ((List.getD b.code (Int.toNat e) dIns).op != (51:Int),()) else (false,()) else (false,()) else bif d==(103:Int) then bif x1 then (decide (e<(a.globals.length:Int)),()) else (false,()) else bif d==(108:Int) then bif x1 then (decide (e<(a.layouts.length:Int)),()) else (false,()) else bif d==(102:Int) then bif x1 then bif x3 then bif decide (c.c≥(0:Int)) then (decide (c.c≤x2),()) else (false,()) else (false,()) else (false,()) else bif d==(49:Int) then bif x1 then bif x3 then ((List.getD a.funcs (Int.toNat e) dFnc).params==(1:Int),()) else (false,()) else (false,()) else bif d==(97:Int) then (x1,()) else bif d==(115:Int) then bif x1 then (decide (e≤(8:Int)),()) else (false,()) else bif d==(98:Int) then bif !e==(0:Int) then (e==(1:Int),()) else (true,()) else bif d==(99:Int) then bif x4 then bif decide (e<b.regs) then bif !c.b==(0:Int) then (x1,()) else (true,()) else (false,()) else (false,()) else bif d==(45:Int) then (e==(0:Int),()) else (true,())
noncomputable def ziO (a:Prg) (b:Fnc) (c:Ins) (d:Int) (e:Int):Bool:=let x1:=decide (e≥(0:Int));
let x2:=decide (e<(a.funcs.length:Int));
let x3:=decide ((0:Int)≤e∧e<(a.funcs.length:Int));
bif d==(100:Int) then true else bif d==(114:Int) then true else bif d==(68:Int) then true else bif d==(82:Int) then true else bif d==(110:Int) then true else bif d==(106:Int) then bif x1 then bif decide (e<(b.code.length:Int)) then decide ((0:Int)≤e∧e<(b.code.length:Int)) else true else true else bif d==(103:Int) then true else bif d==(108:Int) then true else bif d==(102:Int) then bif x1 then bif x2 then bif decide (c.c≥(0:Int)) then x3 else true else true else true else bif d==(49:Int) then bif x1 then bif x2 then x3 else true else true else true
noncomputable def zbU:=hide ziN
noncomputable def zdo:=hide ziO
theorem zhR:zbU=ziN:=zb _
theorem zln:zdo=ziO:=zb _
noncomputable def zvP:Ctr:=zcB [.v true (.st .prg), .v false (.st .fnc), .v false (.st .ins), .v false (.int .u8), .v false (.int .i64)] [.own (.bool)] (uu5 zdo) (uu5 zbU)
theorem zqT:zi Tryz.prog 171 zvP:=zcS Tryz.f171 T0 (congrArg uu5 zln) (congrArg uu5 zhR) 9 177 (fun _=>noA) 0x40082082082082082082082082082081041081081040041040041041000042081000082041000002082082082082082082082082082081041040041040041041040002082082082082082082082082082082082082082082082082082082082082082082082082081041041001041041041001041001041041000082082081041041000082082081041041000082082082082082082082082082082041041001041001041041000082041000082082041041000082082041041001002082081041040002082081041040040
open Go Go.Proofs.YtiepllpgifnloaaGreat.Vx Go.Proofs Go.RowKit
set_option maxRecDepth 100000
variable {ρ ρ':Rho} {w w0 w':World} {K:KS} {st st':St} {S:Nat→Prop} {F:Nat→Nat→Prop}
theorem zy {xs:List Int} {i:Nat} (hi:i<xs.length):xs[i]? =some (xs.getD i 0):=by simp [List.getD,hi]
noncomputable def zcc (a:Val):Bool×Unit:=bif a.kind==(0:Int) then (a.off==(0:Int),()) else bif a.kind==(1:Int) then bif a.n==(0:Int) then (a.off==(0:Int),()) else (false,()) else bif a.kind==(2:Int) then bif decide (a.n≥(0:Int)) then bif decide (a.off≥(0:Int)) then (decide (a.off≤(64:Int)),()) else (false,()) else (false,()) else (false,())
noncomputable def zcd (a:Val):Bool:=true
noncomputable def zN:=hide zcc
noncomputable def zae:=hide zcd
theorem zeu:zN=zcc:=zb _
theorem zbQ:zae=zcd:=zb _
noncomputable def zeL:Ctr:=zcB [.v false (.st .val)] [.own (.bool)] (uu1 zae) (uu1 zN)
theorem zd1:zi Tryz.prog 70 zeL:=zcS Tryz.f70 T0 (congrArg uu1 zbQ) (congrArg uu1 zeu) 1 35 (fun _=>noA) 0x1082082082082082041040041040002082041040000
noncomputable def zd2 (a:List Val) (i0:Int×Unit):Snap:=⟨[(0, .lw 2 2 [] 3 a.length),(3,vI (i0.1))],[(1,bV),(2,bT .ro (.st .val) a 1)],3⟩
noncomputable def zdu (a:List Val) (u9:Unit):Snap:=⟨[],[],3⟩
noncomputable def zdv (a:List Val) (u9:Bool×Unit):Snap:=⟨[(2,vB (u9.1))],[],3⟩
noncomputable def zx (a:List Val) (i0:Int×Unit):(Int×Unit)⊕(Bool×(Unit)×(Bool×Unit)):=bif decide (i0.fst<(a.length:Int)) then bif !(zN (List.getD a (Int.toNat i0.fst) zjY)).fst then Sum.inr (false,(),false,()) else Sum.inl (IntKind.i64.wrap (i0.fst+(1:Int)),()) else Sum.inr (true,(),false,())
noncomputable def zH (a:List Val) (i0:Int×Unit):Bool:=bif decide (i0.fst<(a.length:Int)) then decide ((0:Int)≤i0.fst∧i0.fst<(a.length:Int))&&zae (List.getD a (Int.toNat i0.fst) zjY) else true
noncomputable def zbR (a:List Val):Bool×Unit:=let y1:=zd (zx a) (false,(),false,()) X_N ((0:Int),());
bif y1.fst then (true,()) else (y1.snd.snd.fst,())
noncomputable def zbS (a:List Val):Bool:=X_wok (zx a) (zH a) X_N ((0:Int),())
noncomputable def zq:=hide zbR
noncomputable def zJ:=hide zbS
theorem zd3:zq=zbR:=zb _
theorem zbG:zJ=zbS:=zb _
noncomputable def zew:Ctr:=zcB [.v false (.list (.st .val))] [.own (.bool)] (uu1 zJ) (uu1 zq)
noncomputable def zev (a:List Val):Nat→ze5:=fun q=>match q with|0=> .mk [⟨3,none,(.int .i64)⟩] (zd2 a) [⟨.exit 0,[],zdu a⟩,⟨.ret,[⟨2,none, .bool⟩],zdv a⟩] (zx a) (zH a) (H 0x1000000) (fun (_:Int×Unit)=>fun _=> .no)|_=> .no
noncomputable def zex:TT:=T0.a zd1
theorem zdV:zi Tryz.prog 27 zew:=zcS Tryz.f27 zex (congrArg uu1 zbG) (congrArg uu1 zd3) 3 16 (uu1 zev) 0x1000 (fun zz=>zC [(0,(zaP 0 (bd Tryz.f27)))] (by kernel_rfl) ⟨fun _=>⟨by kernel_rfl,zm (by kernel_rfl)⟩,trivial⟩)
noncomputable def zfC (a:List (List Int)) (i0:Int×Unit):Snap:=⟨[(0, .lw 2 2 [] 1 a.length),(3,vI (i0.1))],[(1,bV),(2,bT .ro (RT.list (RT.int IntKind.i64)) a 1)],3⟩
noncomputable def zfD (a:List (List Int)) (i0:Int×Unit) (i2:Int×Unit):Snap:=⟨[(0, .lw 2 2 [] 1 a.length),(3,vI i0.fst),(4,vI (i2.1))],[(1,bV),(2,bT .ro (RT.list (RT.int IntKind.i64)) a 1)],3⟩
noncomputable def zeJ (a:List (List Int)) (i0:Int×Unit) (u9:Unit):Snap:=⟨[(0, .lw 2 2 [] 1 a.length),(3,vI i0.fst)],[(1,bV),(2,bT .ro (RT.list (RT.int IntKind.i64)) a 1)],3⟩
noncomputable def zeK (a:List (List Int)) (i0:Int×Unit) (u9:Bool×Unit):Snap:=⟨[(2,vB (u9.1))],[],3⟩
noncomputable def zA (a:List (List Int)) (i0:Int×Unit) (i2:Int×Unit):(Int×Unit)⊕(Bool×(Unit)×(Bool×Unit)):=let x1:=(↑(List.length (List.getD a (Int.toNat i0.fst) [])):Int);
let x2:=List.getD (List.getD a (Int.toNat i0.fst) []) (Int.toNat i2.fst) (0:Int);
bif decide (i2.fst<x1) then bif x2 != (0:Int) then bif x2 != (1:Int) then Sum.inr (false,(),false,()) else Sum.inl (IntKind.i64.wrap (i2.fst+(1:Int)),()) else Sum.inl (IntKind.i64.wrap (i2.fst+(1:Int)),()) else Sum.inr (true,(),false,())
noncomputable def zX (a:List (List Int)) (i0:Int×Unit) (i2:Int×Unit):Bool:=let x1:=(↑(List.length (List.getD a (Int.toNat i0.fst) [])):Int);
decide ((0:Int)≤i0.fst∧i0.fst<(a.length:Int))&&bif decide (i2.fst<x1) then decide ((0:Int)≤i2.fst∧i2.fst<x1) else true
noncomputable def zeH (a:List (List Int)) (u9:Unit):Snap:=⟨[(0, .lw 2 2 [] 1 a.length)],[(1,bV),(2,bT .ro (RT.list (RT.int IntKind.i64)) a 1)],3⟩
noncomputable def zeI (a:List (List Int)) (u9:Bool×Unit):Snap:=⟨[(2,vB (u9.1))],[],3⟩
noncomputable def zG (a:List (List Int)) (i0:Int×Unit):(Int×Unit)⊕(Bool×(Unit)×(Bool×Unit)):=let x1:=(↑(List.length (List.getD a (Int.toNat i0.fst) [])):Int);
let y1:=zd (zA a i0) (false,(),false,()) X_N ((0:Int),());
bif decide (i0.fst<(a.length:Int)) then bif y1.fst then bif decide (x1>(64:Int)) then Sum.inr (false,(),false,()) else Sum.inl (IntKind.i64.wrap (i0.fst+(1:Int)),()) else Sum.inr (false,(),y1.snd.snd.fst,()) else Sum.inr (true,(),false,())
noncomputable def zW (a:List (List Int)) (i0:Int×Unit):Bool:=bif decide (i0.fst<(a.length:Int)) then X_wok (zA a i0) (zX a i0) X_N ((0:Int),())&&bif (zd (zA a i0) (false,(),false,()) X_N ((0:Int),())).fst then decide ((0:Int)≤i0.fst∧i0.fst<(a.length:Int)) else true else true
noncomputable def zbe (a:List (List Int)):Bool×Unit:=let y1:=zd (zG a) (false,(),false,()) X_N ((0:Int),());
bif y1.fst then (decide ((a.length:Int)≤(32:Int)),()) else (y1.snd.snd.fst,())
noncomputable def zbf (a:List (List Int)):Bool:=X_wok (zG a) (zW a) X_N ((0:Int),())
noncomputable def z4:=hide zbe
noncomputable def zaw:=hide zbf
theorem zcH:z4=zbe:=zb _
theorem zcG:zaw=zbf:=zb _
noncomputable def zge:Ctr:=zcB [.v false (.list (.list (.int .i64)))] [.own (.bool)] (uu1 zaw) (uu1 z4)
noncomputable def zgd (a:List (List Int)):Nat→ze5:=fun q=>match q with|0=> .mk [⟨3,none,(.int .i64)⟩] (zfC a) [⟨.exit 0,[],zeH a⟩,⟨.ret,[⟨2,none, .bool⟩],zeI a⟩] (zG a) (zW a) (H 0x40000000) (fun (i0:Int×Unit)=>fun q=>match q with|2=> .mk [⟨4,none,(.int .i64)⟩] (zfD a i0) [⟨.exit 2,[],zeJ a i0⟩,⟨.ret,[⟨2,none, .bool⟩],zeK a i0⟩] (zA a i0) (zX a i0) (H 0x42082082082082001041101041181040004000) (fun (_:Int×Unit)=>fun _=> .no)|_=> .no)|_=> .no
theorem zeZ:zi Tryz.prog 43 zge:=zcS Tryz.f43 T0 (congrArg uu1 zcG) (congrArg uu1 zcH) 3 47 (uu1 zgd) 0x1000 (fun zz=>zC [(0,(zaP 0 (bd Tryz.f43)))] (by kernel_rfl) ⟨fun _=>⟨by kernel_rfl,zC [(2,(zaP 0 (zaP 0 (bd Tryz.f43))))] (by kernel_rfl) ⟨fun _=>⟨by kernel_rfl,zm (by kernel_rfl)⟩,trivial⟩⟩,trivial⟩)
noncomputable def zbE (a:Prg) (b:Fnc) (c:Ins):Bool×Unit:=let x1:=(zdn c.op).fst;
let x2:=IntKind.i64.wrap (c.c+(1:Int));
bif !ByteArray.toList x1==ByteArray.toList (ByteArray.mk #[]) then bif !decide (c.at_<(0:Int)) then bif !!(zbU a b c (zh7 x1 (Int.toNat (0:Int))) c.a).fst then bif !!(zbU a b c (zh7 x1 (Int.toNat (1:Int))) c.b).fst then bif !(zbU a b c (zh7 x1 (Int.toNat (2:Int))) c.c).fst then (false,()) else bif c.op==(24:Int) then bif decide (IntKind.i64.wrap (c.a+c.c)<b.regs) then (decide (c.c<(64:Int)),()) else (false,()) else bif c.op==(25:Int) then bif decide (c.b<(63:Int)) then (decide (b.regs>(0:Int)),()) else (false,()) else bif !c.op != (38:Int) then (decide (x2<b.regs),()) else (true,()) else (false,()) else (false,()) else (false,()) else (false,())
noncomputable def zbF (a:Prg) (b:Fnc) (c:Ins):Bool:=let x1:=(zdn c.op).fst;
let x2:=(↑(ByteArray.size x1):Int);
zhh c.op&&bif !ByteArray.toList x1==ByteArray.toList (ByteArray.mk #[]) then bif !decide (c.at_<(0:Int)) then decide ((0:Int)≤(0:Int)∧(0:Int)<x2)&&(zdo a b c (zh7 x1 (Int.toNat (0:Int))) c.a&&bif !!(zbU a b c (zh7 x1 (Int.toNat (0:Int))) c.a).fst then decide ((0:Int)≤(1:Int)∧(1:Int)<x2)&&(zdo a b c (zh7 x1 (Int.toNat (1:Int))) c.b&&bif !!(zbU a b c (zh7 x1 (Int.toNat (1:Int))) c.b).fst then decide ((0:Int)≤(2:Int)∧(2:Int)<x2)&&zdo a b c (zh7 x1 (Int.toNat (2:Int))) c.c else true) else true) else true else true
noncomputable def zak:=hide zbE
noncomputable def zaK:=hide zbF
theorem zc9:zak=zbE:=zb _
theorem zc8:zaK=zbF:=zb _
noncomputable def zg9:Ctr:=zcB [.v true (.st .prg), .v false (.st .fnc), .v false (.st .ins)] [.own (.bool)] (uu3 zaK) (uu3 zak)
noncomputable def zha:TT:=(T0.a zvN).a zqT
theorem zgc:zi Tryz.prog 96 zg9:=zcS Tryz.f96 zha (congrArg uu3 zc8) (congrArg uu3 zc9) 9 89 (fun _=>noA) 0x41042082082082082042082082082082042082082082082042081042082082082082042082082082082042082082082081042082082082082042082082082081042082082082081082082082041041040082081041000082081041000002040041040041041002040041040041041002040041040041041002041000
noncomputable def zeY (a:Prg) (b:Fnc) (i0:Int×Int×Unit):Snap:=⟨[(2, .ptr 9 0),(3, .ptr 10 0),(6,vI (i0.1)),(7,vI (i0.2.1))],[(1,bV),(2,bT .none (.st .fnc) a.funcs 1),(3,bV),(4,bT .none (.st .glb) a.globals 3),(5,bV),(6,bT .none (RT.list (RT.int IntKind.i64)) a.layouts 5),(7,bV),(8,bT .ro (.st .ins) b.code 7),(9,bC 32 [.lw 2 2 [] 4 a.funcs.length, .lw 4 4 [] 2 a.globals.length, .lw 6 6 [] 1 a.layouts.length,vI a.main]),(10,bC 100 [.lit (Value.string b.name),vI b.params,vI b.regs, .lw 8 8 [] 5 b.code.length])],11⟩
noncomputable def zes (a:Prg) (b:Fnc) (u9:Unit):Snap:=⟨[],[],11⟩
noncomputable def zet (a:Prg) (b:Fnc) (u9:Bool×Unit):Snap:=⟨[(4,vB (u9.1))],[],12⟩
noncomputable def interleaveref09_functionF_l0 (a:Prg) (b:Fnc) (i0:Int×Int×Unit):(Int×Int×Unit)⊕(Bool×(Unit)×(Bool×Unit)):=let x1:=i0.fst;
let x2:=i0.snd.fst;
let x3:=List.getD b.code (Int.toNat x2) dIns;
let x4:=x3.op;
let x5:=x4==(50:Int);
let x6:=decide (x1>(0:Int));
bif decide (x2<(b.code.length:Int)) then bif !!x6==(x4==(51:Int)) then bif !(zak a b x3).fst then Sum.inr (false,(),false,()) else bif x6 then bif x5 then Sum.inl (x3.b,IntKind.i64.wrap (x2+(1:Int)),()) else Sum.inl (IntKind.i64.wrap (x1 - (1:Int)),IntKind.i64.wrap (x2+(1:Int)),()) else bif x5 then Sum.inl (x3.b,IntKind.i64.wrap (x2+(1:Int)),()) else Sum.inl (x1,IntKind.i64.wrap (x2+(1:Int)),()) else Sum.inr (false,(),false,()) else Sum.inr (true,(),false,())
noncomputable def interleaveref09_functionF_k0 (a:Prg) (b:Fnc) (i0:Int×Int×Unit):Bool:=let x1:=i0.snd.fst;
let x2:=List.getD b.code (Int.toNat x1) dIns;
bif decide (x1<(b.code.length:Int)) then decide ((0:Int)≤x1∧x1<(b.code.length:Int))&&bif !!decide (i0.fst>(0:Int))==(x2.op==(51:Int)) then zaK a b x2 else true else true
noncomputable def za6 (a:Prg) (b:Fnc):Bool×Unit:=let x1:=(b.code.length:Int);
let x2:=(List.getD b.code (Int.toNat (IntKind.i64.wrap (x1 - (1:Int)))) dIns).op;
let y1:=zd (interleaveref09_functionF_l0 a b) (false,(),false,()) X_N ((0:Int),(0:Int),());
bif !ByteArray.toList b.name==ByteArray.toList (ByteArray.mk #[]) then bif !decide (b.params<(0:Int)) then bif !decide (b.params>b.regs) then bif !decide (b.regs>(64:Int)) then bif !x1==(0:Int) then bif decide (x1>(1000:Int)) then (false,()) else bif x2 != (30:Int) then bif x2 != (16:Int) then (false,()) else bif y1.fst then (true,()) else (y1.snd.snd.fst,()) else bif y1.fst then (true,()) else (y1.snd.snd.fst,()) else (false,()) else (false,()) else (false,()) else (false,()) else (false,())
noncomputable def interleaveref09_functionF_p (a:Prg) (b:Fnc):Bool:=let x1:=(b.code.length:Int);
let x2:=IntKind.i64.wrap (x1 - (1:Int));
let x3:=(List.getD b.code (Int.toNat x2) dIns).op;
let x4:=X_wok (interleaveref09_functionF_l0 a b) (interleaveref09_functionF_k0 a b) X_N ((0:Int),(0:Int),());
bif !ByteArray.toList b.name==ByteArray.toList (ByteArray.mk #[]) then bif !decide (b.params<(0:Int)) then bif !decide (b.params>b.regs) then bif !decide (b.regs>(64:Int)) then bif !x1==(0:Int) then bif decide (x1>(1000:Int)) then true else decide ((0:Int)≤x2∧x2<x1)&&bif x3 != (30:Int) then bif x3 != (16:Int) then true else x4 else x4 else true else true else true else true else true
noncomputable def interleaveref09_functionF_s:=hide za6
noncomputable def zar:=hide interleaveref09_functionF_p
theorem interleaveref09_functionF_sE:interleaveref09_functionF_s=za6:=zb _
theorem interleaveref09_functionF_oE:zar=interleaveref09_functionF_p:=zb _
noncomputable def zfA:Ctr:=zcB [.v true (.st .prg), .v false (.st .fnc)] [.own (.bool)] (uu2 zar) (uu2 interleaveref09_functionF_s)
noncomputable def interleaveref09_functionF_a (a:Prg) (b:Fnc):Nat→ze5:=fun q=>match q with|0=> .mk [⟨6,none,(.int .i64)⟩,⟨7,none,(.int .i64)⟩] (zeY a b) [⟨.exit 0,[],zes a b⟩,⟨.ret,[⟨4,none, .bool⟩],zet a b⟩] (interleaveref09_functionF_l0 a b) (interleaveref09_functionF_k0 a b) (H 0x41042082080000002040041040000) (fun (_:Int×Int×Unit)=>fun _=> .no)|_=> .no
noncomputable def zfB:TT:=T0.a zgc
theorem zeG:zi Tryz.prog 44 zfA:=zcS Tryz.f44 zfB (congrArg uu2 interleaveref09_functionF_oE) (congrArg uu2 interleaveref09_functionF_sE) 9 90 (uu2 interleaveref09_functionF_a) 0x1041082082042082081082081082082081082041082082042082081082081082082041082082042082081082041082082042082041082080002082000001040000081041002041040081040081041040081040 (fun zz=>zC [(0,(zaP 0 (bd Tryz.f44)))] (by kernel_rfl) ⟨fun _=>⟨by kernel_rfl,zm (by kernel_rfl)⟩,trivial⟩)
noncomputable def zgv (a:Prg) (i0:Int×Unit):Snap:=⟨[(1, .ptr 7 0),(3,vI (i0.1))],[(1,bV),(2,bT .none (.st .fnc) a.funcs 1),(3,bV),(4,bT .none (.st .glb) a.globals 3),(5,bV),(6,bT .none (RT.list (RT.int IntKind.i64)) a.layouts 5),(7,bC 32 [.lw 2 2 [] 4 a.funcs.length, .lw 4 4 [] 2 a.globals.length, .lw 6 6 [] 1 a.layouts.length,vI a.main])],8⟩
noncomputable def zgw (a:Prg) (i0:Int×Unit) (i2:Int×Unit):Snap:=⟨[(1, .ptr 7 0),(3,vI i0.fst),(4, .ptr 8 0),(5,vI (i2.1))],[(1,bV),(2,bT .none (.st .fnc) a.funcs 1),(3,bV),(4,bT .none (.st .glb) a.globals 3),(5,bV),(6,bT .none (RT.list (RT.int IntKind.i64)) a.layouts 5),(7,bC 32 [.lw 2 2 [] 4 a.funcs.length, .lw 4 4 [] 2 a.globals.length, .lw 6 6 [] 1 a.layouts.length,vI a.main]),(8,bC 96 [.lit (Value.string (List.getD a.globals (Int.toNat i0.fst) znW).name),vI ((List.getD a.globals (Int.toNat i0.fst) znW).kind)])],9⟩
noncomputable def zfu (a:Prg) (i0:Int×Unit) (u9:Unit):Snap:=⟨[(1, .ptr 7 0),(3,vI i0.fst)],[(1,bV),(2,bT .none (.st .fnc) a.funcs 1),(3,bV),(4,bT .none (.st .glb) a.globals 3),(5,bV),(6,bT .none (RT.list (RT.int IntKind.i64)) a.layouts 5),(7,bC 32 [.lw 2 2 [] 4 a.funcs.length, .lw 4 4 [] 2 a.globals.length, .lw 6 6 [] 1 a.layouts.length,vI a.main])],9⟩
noncomputable def zfv (a:Prg) (i0:Int×Unit) (u9:Bool×Unit):Snap:=⟨[(2,vB (u9.1))],[],9⟩
noncomputable def zO (a:Prg) (i0:Int×Unit) (i2:Int×Unit):(Int×Unit)⊕(Bool×(Unit)×(Bool×Unit)):=bif decide (i2.fst<i0.fst) then bif ByteArray.toList (List.getD a.globals (Int.toNat i2.fst) znW).name==ByteArray.toList (List.getD a.globals (Int.toNat i0.fst) znW).name then Sum.inr (false,(),false,()) else Sum.inl (IntKind.i64.wrap (i2.fst+(1:Int)),()) else Sum.inr (true,(),false,())
noncomputable def z7 (a:Prg) (i0:Int×Unit) (i2:Int×Unit):Bool:=bif decide (i2.fst<i0.fst) then decide ((0:Int)≤i2.fst∧i2.fst<(a.globals.length:Int)) else true
noncomputable def zfs (a:Prg) (u9:Unit):Snap:=⟨[(1, .ptr 7 0)],[(1,bV),(2,bT .none (.st .fnc) a.funcs 1),(3,bV),(4,bT .none (.st .glb) a.globals 3),(5,bV),(6,bT .none (RT.list (RT.int IntKind.i64)) a.layouts 5),(7,bC 32 [.lw 2 2 [] 4 a.funcs.length, .lw 4 4 [] 2 a.globals.length, .lw 6 6 [] 1 a.layouts.length,vI a.main])],8⟩
noncomputable def zft (a:Prg) (u9:Bool×Unit):Snap:=⟨[(2,vB (u9.1))],[],9⟩
noncomputable def zw (a:Prg) (i0:Int×Unit):(Int×Unit)⊕(Bool×(Unit)×(Bool×Unit)):=let y1:=zd (zO a i0) (false,(),false,()) X_N ((0:Int),());
bif decide (i0.fst<(a.globals.length:Int)) then bif !ByteArray.toList (List.getD a.globals (Int.toNat i0.fst) znW).name==ByteArray.toList (ByteArray.mk #[]) then bif (List.getD a.globals (Int.toNat i0.fst) znW).kind != (0:Int) then bif (List.getD a.globals (Int.toNat i0.fst) znW).kind != (1:Int) then Sum.inr (false,(),false,()) else bif y1.fst then Sum.inl (IntKind.i64.wrap (i0.fst+(1:Int)),()) else Sum.inr (false,(),y1.snd.snd.fst,()) else bif y1.fst then Sum.inl (IntKind.i64.wrap (i0.fst+(1:Int)),()) else Sum.inr (false,(),y1.snd.snd.fst,()) else Sum.inr (false,(),false,()) else Sum.inr (true,(),false,())
noncomputable def z6 (a:Prg) (i0:Int×Unit):Bool:=let x1:=X_wok (zO a i0) (z7 a i0) X_N ((0:Int),());
bif decide (i0.fst<(a.globals.length:Int)) then decide ((0:Int)≤i0.fst∧i0.fst<(a.globals.length:Int))&&bif !ByteArray.toList (List.getD a.globals (Int.toNat i0.fst) znW).name==ByteArray.toList (ByteArray.mk #[]) then bif (List.getD a.globals (Int.toNat i0.fst) znW).kind != (0:Int) then bif (List.getD a.globals (Int.toNat i0.fst) znW).kind != (1:Int) then true else x1 else x1 else true else true
noncomputable def zgx (a:Prg) (i4:Int×Unit):Snap:=⟨[(1, .ptr 7 0),(6,vI (i4.1))],[(1,bV),(2,bT .none (.st .fnc) a.funcs 1),(3,bV),(4,bT .none (.st .glb) a.globals 3),(5,bV),(6,bT .none (RT.list (RT.int IntKind.i64)) a.layouts 5),(7,bC 32 [.lw 2 2 [] 4 a.funcs.length, .lw 4 4 [] 2 a.globals.length, .lw 6 6 [] 1 a.layouts.length,vI a.main])],8⟩
noncomputable def zgy (a:Prg) (i4:Int×Unit) (i6:Int×Unit):Snap:=⟨[(1, .ptr 7 0),(6,vI i4.fst),(7,vI (i6.1))],[(1,bV),(2,bT .none (.st .fnc) a.funcs 1),(3,bV),(4,bT .none (.st .glb) a.globals 3),(5,bV),(6,bT .none (RT.list (RT.int IntKind.i64)) a.layouts 5),(7,bC 32 [.lw 2 2 [] 4 a.funcs.length, .lw 4 4 [] 2 a.globals.length, .lw 6 6 [] 1 a.layouts.length,vI a.main])],8⟩
noncomputable def zfy (a:Prg) (i4:Int×Unit) (u9:Unit):Snap:=⟨[(1, .ptr 7 0),(6,vI i4.fst)],[(1,bV),(2,bT .none (.st .fnc) a.funcs 1),(3,bV),(4,bT .none (.st .glb) a.globals 3),(5,bV),(6,bT .none (RT.list (RT.int IntKind.i64)) a.layouts 5),(7,bC 32 [.lw 2 2 [] 4 a.funcs.length, .lw 4 4 [] 2 a.globals.length, .lw 6 6 [] 1 a.layouts.length,vI a.main])],8⟩
noncomputable def zfz (a:Prg) (i4:Int×Unit) (u9:Bool×Unit):Snap:=⟨[(2,vB (u9.1))],[],8⟩
noncomputable def interleaveref09_ValidF_l6 (a:Prg) (i4:Int×Unit) (i6:Int×Unit):(Int×Unit)⊕(Bool×(Unit)×(Bool×Unit)):=bif decide (i6.fst<i4.fst) then bif ByteArray.toList (List.getD a.funcs (Int.toNat i6.fst) dFnc).name==ByteArray.toList (List.getD a.funcs (Int.toNat i4.fst) dFnc).name then Sum.inr (false,(),false,()) else Sum.inl (IntKind.i64.wrap (i6.fst+(1:Int)),()) else Sum.inr (true,(),false,())
noncomputable def interleaveref09_ValidF_k6 (a:Prg) (i4:Int×Unit) (i6:Int×Unit):Bool:=let x1:=(a.funcs.length:Int);
bif decide (i6.fst<i4.fst) then decide ((0:Int)≤i6.fst∧i6.fst<x1)&&decide ((0:Int)≤i4.fst∧i4.fst<x1) else true
noncomputable def zfw (a:Prg) (u9:Unit):Snap:=⟨[],[],8⟩
noncomputable def zfx (a:Prg) (u9:Bool×Unit):Snap:=⟨[(2,vB (u9.1))],[],8⟩
noncomputable def zE (a:Prg) (i4:Int×Unit):(Int×Unit)⊕(Bool×(Unit)×(Bool×Unit)):=let y1:=zd (interleaveref09_ValidF_l6 a i4) (false,(),false,()) X_N ((0:Int),());
bif decide (i4.fst<(a.funcs.length:Int)) then bif !(interleaveref09_functionF_s a (List.getD a.funcs (Int.toNat i4.fst) dFnc)).fst then Sum.inr (false,(),false,()) else bif y1.fst then Sum.inl (IntKind.i64.wrap (i4.fst+(1:Int)),()) else Sum.inr (false,(),y1.snd.snd.fst,()) else Sum.inr (true,(),false,())
noncomputable def z8 (a:Prg) (i4:Int×Unit):Bool:=bif decide (i4.fst<(a.funcs.length:Int)) then decide ((0:Int)≤i4.fst∧i4.fst<(a.funcs.length:Int))&&(zar a (List.getD a.funcs (Int.toNat i4.fst) dFnc)&&bif !(interleaveref09_functionF_s a (List.getD a.funcs (Int.toNat i4.fst) dFnc)).fst then true else X_wok (interleaveref09_ValidF_l6 a i4) (interleaveref09_ValidF_k6 a i4) X_N ((0:Int),())) else true
noncomputable def zbC (a:Prg):Bool×Unit:=let x1:=(a.funcs.length:Int);
let y1:=zd (zw a) (false,(),false,()) X_N ((0:Int),());
let y2:=zd (zE a) (false,(),false,()) X_N ((0:Int),());
bif !decide (x1>(64:Int)) then bif !decide ((a.globals.length:Int)>(64:Int)) then bif !!(z4 a.layouts).fst then bif !decide (a.main<(0:Int)) then bif !decide (a.main≥x1) then bif (List.getD a.funcs (Int.toNat a.main) dFnc).params != (0:Int) then (false,()) else bif y1.fst then bif y2.fst then (true,()) else (y2.snd.snd.fst,()) else (y1.snd.snd.fst,()) else (false,()) else (false,()) else (false,()) else (false,()) else (false,())
noncomputable def zbD (a:Prg):Bool:=let x1:=(a.funcs.length:Int);
bif !decide (x1>(64:Int)) then bif !decide ((a.globals.length:Int)>(64:Int)) then zaw a.layouts&&bif !!(z4 a.layouts).fst then bif !decide (a.main<(0:Int)) then bif !decide (a.main≥x1) then decide ((0:Int)≤a.main∧a.main<x1)&&bif (List.getD a.funcs (Int.toNat a.main) dFnc).params != (0:Int) then true else X_wok (zw a) (z6 a) X_N ((0:Int),())&&bif (zd (zw a) (false,(),false,()) X_N ((0:Int),())).fst then X_wok (zE a) (z8 a) X_N ((0:Int),()) else true else true else true else true else true else true
noncomputable def zU:=hide zbC
noncomputable def zaJ:=hide zbD
theorem zc7:zU=zbC:=zb _
theorem zc6:zaJ=zbD:=zb _
noncomputable def zg7:Ctr:=zcB [.v true (.st .prg)] [.own (.bool)] (uu1 zaJ) (uu1 zU)
noncomputable def zg6 (a:Prg):Nat→ze5:=fun q=>match q with|0=> .mk [⟨3,none,(.int .i64)⟩] (zgv a) [⟨.exit 0,[],zfs a⟩,⟨.ret,[⟨2,none, .bool⟩],zft a⟩] (zw a) (z6 a) (H 0x1041082082082080002082042080000081041040041040000) (fun (i0:Int×Unit)=>fun q=>match q with|2=> .mk [⟨5,none,(.int .i64)⟩] (zgw a i0) [⟨.exit 2,[],zfu a i0⟩,⟨.ret,[⟨2,none, .bool⟩],zfv a i0⟩] (zO a i0) (z7 a i0) (H 0x40000) (fun (_:Int×Unit)=>fun _=> .no)|_=> .no)|4=> .mk [⟨6,none,(.int .i64)⟩] (zgx a) [⟨.exit 4,[],zfw a⟩,⟨.ret,[⟨2,none, .bool⟩],zfx a⟩] (zE a) (z8 a) (H 0x1000000000) (fun (i4:Int×Unit)=>fun q=>match q with|6=> .mk [⟨7,none,(.int .i64)⟩] (zgy a i4) [⟨.exit 6,[],zfy a i4⟩,⟨.ret,[⟨2,none, .bool⟩],zfz a i4⟩] (interleaveref09_ValidF_l6 a i4) (interleaveref09_ValidF_k6 a i4) (H 0x1000000) (fun (_:Int×Unit)=>fun _=> .no)|_=> .no)|_=> .no
noncomputable def zg8:TT:=(T0.a zeZ).a zeG
theorem zgb:zi Tryz.prog 18 zg7:=zcS Tryz.f18 zg8 (congrArg uu1 zc6) (congrArg uu1 zc7) 7 119 (uu1 zg6) 0x41042082082082081082082082042082042082081082081042082082082081082082082042082042082041082082082082042082082081082041082082082082042082082041082082082080000000081041001041040081041041002041002040041002041040 (fun zz=>zC [(0,(zaP 0 (bd Tryz.f18))),(4,(zaP 1 (bd Tryz.f18)))] (by kernel_rfl) ⟨fun _=>⟨by kernel_rfl,zC [(2,(zaP 0 (zaP 0 (bd Tryz.f18))))] (by kernel_rfl) ⟨fun _=>⟨by kernel_rfl,zm (by kernel_rfl)⟩,trivial⟩⟩,⟨fun _=>⟨by kernel_rfl,zC [(6,(zaP 0 (zaP 1 (bd Tryz.f18))))] (by kernel_rfl) ⟨fun _=>⟨by kernel_rfl,zm (by kernel_rfl)⟩,trivial⟩⟩,trivial⟩⟩)
open Go Go.Proofs.YtiepllpgifnloaaGreat.Vx
theorem bt {c a b:Bool} (h1:c=true→a=true) (h2:c=false→b=true):(bif c then a else b)=true:=by
 cases c with
 |true=>exact h1 rfl
 |false=>exact h2 rfl
theorem zJA (a:Prg) (b:Fnc) (c:Ins) (d e:Int):zdo a b c d e=true:=by
 rw [zln];unfold ziO
 repeat' first
  |rfl
  |exact decide_eq_true ⟨of_decide_eq_true ‹_›,of_decide_eq_true ‹_›⟩
  |refine bt (fun h=>?_) (fun h=>?_)
noncomputable def zIR (a:Prg) (b:Fnc) (c:Ins) (d e:Int):Bool:=(zbU a b c d e).1
noncomputable def zm1 (op:Int) (k:Nat):Int:=zh7 (zdn op).1 k
theorem zyC {op:Int} (h1:1≤op) (h2:op≤52):(ByteArray.toList (zdn op).1==ByteArray.toList (ByteArray.mk #[]))=false∧ByteArray.size (zdn op).1=3:=by
 rw [zbt];have h:op=1∨op=2∨op=3∨op=4∨op=5∨op=6∨op=7∨op=8∨op=9∨op=10∨op=11∨op=12∨op=13∨op=14∨op=15∨op=16∨op=17∨op=18∨op=19∨op=20∨op=21∨op=22∨op=23∨op=24∨op=25∨op=26∨op=27∨op=28∨op=29∨op=30∨op=31∨op=32∨op=33∨op=34∨op=35∨op=36∨op=37∨op=38∨op=39∨op=40∨op=41∨op=42∨op=43∨op=44∨op=45∨op=46∨op=47∨op=48∨op=49∨op=50∨op=51∨op=52:=by omega
 rcases h with e|e|e|e|e|e|e|e|e|e|e|e|e|e|e|e|e|e|e|e|e|e|e|e|e|e|e|e|e|e|e|e|e|e|e|e|e|e|e|e|e|e|e|e|e|e|e|e|e|e|e|e<;>(subst e;exact ⟨by kernel_rfl,by kernel_rfl⟩)
theorem zsn {op:Int} (h:¬(1≤op∧op≤52)):(ByteArray.toList (zdn op).1==ByteArray.toList (ByteArray.mk #[]))=true:=by
 rw [zbt];have hn:∀n:Int,1≤n→n≤52→(op==n)=false:=fun n h1 h2=>beq_eq_false_iff_ne.2 (by omega)
 unfold zmw;simp (discharger:=decide) only [hn,cond_false];exact beq_self_eq_true _
noncomputable def zrH (p:Prg) (f:Fnc) (i:Ins):Bool:=(zak p f i).1
theorem zFN (p:Prg) (f:Fnc) (i:Ins):zaK p f i=true:=by
 rw [zc8];unfold zbF;by_cases h:1≤i.op∧i.op≤52
 ·obtain ⟨h1,h2⟩:=zyC h.1 h.2;have h3:zhh i.op=true:=by rw [zkt];rfl
  have d0:decide ((0:Int)≤(0:Int)∧(0:Int)<((3:Nat):Int))=true:=by decide
  have d1:decide ((0:Int)≤(1:Int)∧(1:Int)<((3:Nat):Int))=true:=by decide
  have d2:decide ((0:Int)≤(2:Int)∧(2:Int)<((3:Nat):Int))=true:=by decide
  simp only [h1,h2,h3,d0,d1,d2,zJA,Bool.true_and,Bool.cond_self]
 ·have h1:=zsn h;have h3:zhh i.op=true:=by rw [zkt];rfl
  simp only [h1,h3,Bool.true_and,Bool.not_true,cond_false]
theorem zzi {c a:Bool} (h:(bif c then (a,()) else (false,())).1=true):c=true∧a=true:=by
 cases c with
 |true=>exact ⟨rfl,h⟩
 |false=>cases h
theorem znj {c:Bool} {x:Bool×Unit} (h:(bif c then x else (false,())).1=true):c=true∧x.1=true:=by
 cases c with
 |true=>exact ⟨rfl,h⟩
 |false=>cases h
theorem zI8 {c:Bool} {x:Bool×Unit} (h:(bif c then (false,()) else x).1=true):c=false∧x.1=true:=by
 cases c with
 |false=>exact ⟨rfl,h⟩
 |true=>cases h
theorem nf {a:Bool} (h:(!a)=false):a=true:=by cases a with
 |true=>rfl
 |false=>cases h
theorem zjy {p:Prg} {f:Fnc} {i:Ins} (h:zrH p f i=true):
  (1≤i.op∧i.op≤52)∧zIR p f i (zm1 i.op 0) i.a=true∧zIR p f i (zm1 i.op 1) i.b=true∧zIR p f i (zm1 i.op 2) i.c=true∧(i.op=24→i.c<64∧IntKind.i64.wrap (i.a+i.c)<f.regs)∧(i.op=25→i.b<63∧0<f.regs)∧(i.op=38→IntKind.i64.wrap (i.c+(1:Int))<f.regs):=by
 unfold zrH at h;rw [zc9] at h;unfold zbE at h;obtain ⟨h1,h⟩:=znj h;obtain ⟨h2,h⟩:=znj h;obtain ⟨h3,h⟩:=znj h;obtain ⟨h4,h⟩:=znj h;obtain ⟨h5,h⟩:=zI8 h;have hop:1≤i.op∧i.op≤52:=by
  by_cases hh:1≤i.op∧i.op≤52
  ·exact hh
  ·rw [zsn hh] at h1;cases h1
 refine ⟨hop,(Bool.not_not _).symm.trans h3,(Bool.not_not _).symm.trans h4,nf h5,?_⟩;cases h24:i.op==24 with
 |true=>
  have e:=beq_iff_eq.1 h24;rw [h24] at h;obtain ⟨h6,h7⟩:=zzi h;exact ⟨fun _=>⟨of_decide_eq_true h7,of_decide_eq_true h6⟩,fun x=>by omega,fun x=>by omega⟩
 |false=>
  have e:=beq_eq_false_iff_ne.1 h24;rw [h24] at h;cases h25:i.op==25 with
  |true=>
   have e2:=beq_iff_eq.1 h25;rw [h25] at h;obtain ⟨h6,h7⟩:=zzi h;exact ⟨fun x=>absurd x e,fun _=>⟨of_decide_eq_true h6,of_decide_eq_true h7⟩,fun x=>by omega⟩
  |false=>
   have e2:=beq_eq_false_iff_ne.1 h25;rw [h25] at h;refine ⟨fun x=>absurd x e,fun x=>absurd x e2,fun x=>?_⟩;rw [x] at h;exact of_decide_eq_true h
theorem zni {n:Nat} {step:Int×Unit→(Int×Unit)⊕(Bool×Unit×(Bool×Unit))} {ok:Int×Unit→Bool} {d:Bool×Unit×(Bool×Unit)} {C:Nat→Bool} (hn:n≤1152921504606846976)
  (h1:∀i:Nat,i<n→ok ((i:Int),())=true∧step ((i:Int),())=bif C i then .inl (IntKind.i64.wrap ((i:Int)+1),()) else .inr (false,(),false,()))
  (h2:ok ((n:Int),())=true∧step ((n:Int),())= .inr (true,(),false,())):
  X_wok step ok X_N ((0:Int),())=true∧zd step d X_N ((0:Int),())=((List.range n).all C,(),false,()):=by
 have hall:∀j,j<n→(∀t,t<j→C t=true)→C j=false→(List.range n).all C=false:=fun j hj _ hc=>by
  rw [List.all_eq_false];exact ⟨j,List.mem_range.2 hj,by rw [hc];decide⟩
 refine zeS (step:=step) (ok:=ok) (d:=d) (fun x=>∃j:Nat,x=((j:Int),())∧j≤n∧∀t,t<j→C t=true) (fun x=>n - x.1.toNat) (fun _=>((List.range n).all C,(),false,()))
  (fun x hx=>?_) ⟨0,rfl,zNk _,fun t ht=>absurd ht (Nat.not_lt_zero t)⟩ (by
   show n - 0<X_N;have:X_N=4611686018427387904:=rfl;omega)
 obtain ⟨j,rfl,hj,hC⟩:=hx;by_cases hlt:j<n
 ·obtain ⟨g1,g2⟩:=h1 j hlt;refine ⟨g1,?_⟩;rw [g2];cases hc:C j with
  |true=>
   have hw:IntKind.i64.wrap ((j:Int)+1)=((j+1:Nat):Int):=by rw [zav (by omega) (by omega)];rfl
   refine .inl ⟨_,rfl,⟨j+1,by rw [hw],hlt,fun t ht=>?_⟩,?_,rfl⟩
   ·rcases Nat.lt_or_ge t j with h|h
    ·exact hC t h
    ·obtain rfl:t=j:=by omega
     exact hc
   ·show n - (IntKind.i64.wrap ((j:Int)+1)).toNat<n - (j:Int).toNat;rw [hw];simp only [Int.toNat_natCast];omega
  |false=>exact .inr ⟨_,rfl,by rw [hall j hlt hC hc]⟩
 ·obtain rfl:j=n:=by omega
  refine ⟨h2.1, .inr ⟨_,h2.2,?_⟩⟩;have:(List.range j).all C=true:=by
   rw [List.all_eq_true];exact fun t ht=>hC t (List.mem_range.1 ht)
  rw [this]
theorem zok {n:Nat} {C:Nat→Bool} (h:(List.range n).all C=true) {i:Nat} (hi:i<n):C i=true:=List.all_eq_true.1 h i (List.mem_range.2 hi)
def zdY (c:List Ins):Nat→Int
 |0=>0
 |j+1=>bif (c.getD j dIns).op==50 then (c.getD j dIns).b else bif decide (zdY c j>0) then zdY c j - 1 else zdY c j
theorem zo3 (c:List Ins) (j:Nat):zdY c (j+1)=bif (c.getD j dIns).op==50 then (c.getD j dIns).b else bif decide (zdY c j>0) then zdY c j - 1 else zdY c j:=rfl
noncomputable def zaI (p:Prg) (f:Fnc) (j:Nat):Bool:=(decide (zdY f.code j>0)==((f.code.getD j dIns).op==51))&&zrH p f (f.code.getD j dIns)
theorem zDi {p:Prg} {f:Fnc}:∀{j:Nat},(∀t,t<j→zaI p f t=true)→0≤zdY f.code j∧zdY f.code j≤8
 |0,_=>⟨Int.le_refl 0,(by decide:(0:Int)≤8)⟩
 |j+1,h=>by
  have ih:=zDi (j:=j) fun t ht=>h t (by omega)
  rw [zo3];cases h50:(f.code.getD j dIns).op==50 with
  |true=>
   have hj:=h j (by omega)
   unfold zaI at hj;rw [Bool.and_eq_true] at hj;have hi:=(zjy hj.2).2.2.1;rw [beq_iff_eq.1 h50] at hi;unfold zIR at hi;rw [zhR,show zm1 50 1=115 from by unfold zm1;rw [zbt];kernel_rfl] at hi
   have hi2:=zzi (show (bif decide ((f.code.getD j dIns).b≥0) then (decide ((f.code.getD j dIns).b≤8),()) else (false,())).1=true from hi)
   exact ⟨of_decide_eq_true hi2.1,of_decide_eq_true hi2.2⟩
  |false=>
   simp only [cond_false];cases hd:decide (zdY f.code j>0) with
   |true=>have:=of_decide_eq_true hd;simp only [cond_true];omega
   |false=>exact ih
theorem zCZ {p:Prg} {f:Fnc} (hl:f.code.length≤1000) (d:Bool×Unit×(Bool×Unit)):
  X_wok (interleaveref09_functionF_l0 p f) (interleaveref09_functionF_k0 p f) X_N ((0:Int),(0:Int),())=true∧zd (interleaveref09_functionF_l0 p f) d X_N ((0:Int),(0:Int),())=((List.range f.code.length).all (zaI p f),(),false,()):=by
 have hall:∀j,j<f.code.length→zaI p f j=false→(List.range f.code.length).all (zaI p f)=false:=fun j hj hc=>by
  rw [List.all_eq_false];exact ⟨j,List.mem_range.2 hj,by rw [hc];decide⟩
 refine zeS (step:=interleaveref09_functionF_l0 p f) (ok:=interleaveref09_functionF_k0 p f) (d:=d) (fun x=>∃j:Nat,x=(zdY f.code j,(j:Int),())∧j≤f.code.length∧∀t,t<j→zaI p f t=true) (fun x=>f.code.length - x.2.1.toNat) (fun _=>((List.range f.code.length).all (zaI p f),(),false,()))
  (fun x hx=>?_) ⟨0,rfl,zNk _,fun t ht=>absurd ht (Nat.not_lt_zero t)⟩ (by
   show f.code.length - 0<X_N;have:X_N=4611686018427387904:=rfl;omega)
 obtain ⟨j,rfl,hj,hC⟩:=hx;have hls:=zDi hC;unfold interleaveref09_functionF_l0 interleaveref09_functionF_k0;simp only [Int.toNat_natCast,zFN];by_cases hlt:j<f.code.length
 ·have hw:IntKind.i64.wrap ((j:Int)+(1:Int))=((j+1:Nat):Int):=by rw [zav (by omega) (by omega)];rfl
  have hw2:IntKind.i64.wrap (zdY f.code j - (1:Int))=zdY f.code j - 1:=zav (by omega) (by omega)
  have hnext:zaI p f j=true→∃y:Int×Int×Unit,y=(zdY f.code (j+1),((j+1:Nat):Int),())∧(∃j':Nat,y=(zdY f.code j',(j':Int),())∧j'≤f.code.length∧∀t,t<j'→zaI p f t=true)∧f.code.length - y.2.1.toNat<f.code.length - j:=fun hc=>by
   refine ⟨_,rfl,⟨j+1,rfl,hlt,fun t ht=>?_⟩,by simp only [Int.toNat_natCast];omega⟩
   rcases Nat.lt_or_ge t j with h|h
   ·exact hC t h
   ·obtain rfl:t=j:=by omega
    exact hc
  simp only [zcI hlt,zaj hlt,cond_true,Bool.true_and,hw,hw2];rw [show (zak p f (f.code.getD j dIns)).1=zrH p f (f.code.getD j dIns) from rfl];cases h1:(decide (zdY f.code j>0)==((f.code.getD j dIns).op==51)) with
  |false=>
   refine ⟨rfl, .inr ⟨_,rfl,?_⟩⟩;rw [hall j hlt (by unfold zaI;rw [h1];rfl)]
  |true=>
   cases h2:zrH p f (f.code.getD j dIns) with
   |false=>
    refine ⟨rfl, .inr ⟨_,rfl,?_⟩⟩;rw [hall j hlt (by unfold zaI;rw [h1,h2];rfl)]
   |true=>
    obtain ⟨y,hy,hy2,hy3⟩:=hnext (by unfold zaI;rw [h1,h2];rfl)
    refine ⟨rfl, .inl ⟨y,?_,hy2,hy3,by trivial⟩⟩
    rw [hy,zo3];cases decide (zdY f.code j>0)<;>cases ((f.code.getD j dIns).op==50)<;>rfl
 ·obtain rfl:j=f.code.length:=by omega
  simp only [zcV,cond_false];refine ⟨by trivial, .inr ⟨_,rfl,?_⟩⟩
  have:(List.range f.code.length).all (zaI p f)=true:=by
   rw [List.all_eq_true];exact fun t ht=>hC t (List.mem_range.1 ht)
  rw [this]
noncomputable def zCX (p:Prg) (f:Fnc):Bool:=(interleaveref09_functionF_s p f).1
structure zE9 (p:Prg) (f:Fnc):Prop where
 par:0≤f.params∧f.params≤f.regs∧f.regs≤64
 len:0<f.code.length∧f.code.length≤1000
 tst:∀j,j<f.code.length→zaI p f j=true
 lst:(f.code.getD (f.code.length - 1) dIns).op=30∨(f.code.getD (f.code.length - 1) dIns).op=16
theorem zCY (p:Prg) (f:Fnc):zar p f=true∧(zCX p f=true→zE9 p f):=by
 unfold zCX;rw [interleaveref09_functionF_sE,interleaveref09_functionF_oE];unfold za6 interleaveref09_functionF_p;cases hn:(ByteArray.toList f.name==ByteArray.toList (ByteArray.mk #[])) with
 |true=>exact ⟨by trivial,fun h=>(by cases h)⟩
 |false=>
  cases h1:decide (f.params<0) with
  |true=>exact ⟨by trivial,fun h=>(by cases h)⟩
  |false=>
   cases h2:decide (f.params>f.regs) with
   |true=>exact ⟨by trivial,fun h=>(by cases h)⟩
   |false=>
    cases h3:decide (f.regs>64) with
    |true=>exact ⟨by trivial,fun h=>(by cases h)⟩
    |false=>
     simp only [Bool.not_false,cond_true];rcases zNl f.code.length with h0|h0
     ·have e:((f.code.length:Int)==0)=true:=by rw [h0];rfl
      simp only [e,Bool.not_true,cond_false];exact ⟨by trivial,fun h=>(by cases h)⟩
     ·have e:((f.code.length:Int)==0)=false:=beq_eq_false_iff_ne.2 (by omega)
      simp only [e,Bool.not_false,cond_true];by_cases hm:f.code.length≤1000
      ·have e4:decide ((f.code.length:Int)>1000)=false:=decide_eq_false (by omega)
       have hL:=zCZ (p:=p) hm (false,(),false,());have e5:=zb0 (n:=f.code.length) (by have:=zc4;omega) h0
       simp only [e4,cond_false,e5,Int.toNat_natCast,hL.1,hL.2,zbq (show f.code.length - 1<f.code.length by omega),Bool.true_and]
       have h1:=of_decide_eq_false h1;have h2:=of_decide_eq_false h2;have h3:=of_decide_eq_false h3;have hfin:(List.range f.code.length).all (zaI p f)=true→((f.code.getD (f.code.length - 1) dIns).op=30∨(f.code.getD (f.code.length - 1) dIns).op=16)→zE9 p f:=fun h hl=>⟨⟨by omega,by omega,by omega⟩,⟨h0,hm⟩,fun j hj=>zok h hj,hl⟩
       cases h30:((f.code.getD (f.code.length - 1) dIns).op != 30) with
       |false=>
        refine ⟨by trivial,fun h=>hfin ?_ (.inl (by simpa using h30))⟩
        revert h;cases (List.range f.code.length).all (zaI p f) with
        |true=>intro _;rfl
        |false=>intro h;cases h
       |true=>
        cases h16:((f.code.getD (f.code.length - 1) dIns).op != 16) with
        |true=>exact ⟨by trivial,fun h=>(by cases h)⟩
        |false=>
         refine ⟨by trivial,fun h=>hfin ?_ (.inr (by simpa using h16))⟩
         revert h;cases (List.range f.code.length).all (zaI p f) with
         |true=>intro _;rfl
         |false=>intro h;cases h
      ·have e4:decide ((f.code.length:Int)>1000)=true:=decide_eq_true (by omega)
       simp only [e4,cond_true];exact ⟨by trivial,fun h=>(by cases h)⟩
abbrev LEN:Nat:=1152921504606846976
def zoZ (x:List Int):Bool:=(List.range x.length).all (fun j=> !(x.getD j 0 != 0&&x.getD j 0 != 1))&& !decide ((x.length:Int)>64)
theorem zJt {l:List (List Int)} (h1:l.length≤LEN) (h2:∀x∈l,x.length≤LEN):zaw l=true∧(z4 l).1=((List.range l.length).all (fun i=>zoZ (l.getD i []))&&decide ((l.length:Int)≤32)):=by
 rw [zcH,zcG];unfold zbe zbf;have key:=zni (n:=l.length) (step:=zG l) (ok:=zW l) (d:=(false,(),false,())) (C:=fun i=>zoZ (l.getD i [])) h1
  (fun i hi=>by
   have inner:=zni (n:=(l.getD i []).length) (step:=zA l ((i:Int),())) (ok:=zX l ((i:Int),())) (d:=(false,(),false,())) (C:=fun j=> !((l.getD i []).getD j 0 != 0&&(l.getD i []).getD j 0 != 1)) (h2 _ (getD_mem hi))
    (fun j hj=>by
     unfold zA zX;simp only [Int.toNat_natCast,zcI hj,zaj hj,zaj hi,cond_true,Bool.true_and];refine ⟨by trivial,?_⟩
     cases ((l.getD i []).getD j 0 != 0)<;>cases ((l.getD i []).getD j 0 != 1)<;>rfl)
    (by
     unfold zA zX;simp only [Int.toNat_natCast,zcV,zaj hi,cond_false,Bool.true_and];exact ⟨by trivial,by trivial⟩)
   unfold zG zW zoZ;simp only [Int.toNat_natCast,zcI hi,zaj hi,cond_true,inner.1,inner.2,Bool.true_and];generalize (List.range (l.getD i []).length).all _=b;refine ⟨by cases b<;>rfl,?_⟩
   cases b<;>cases decide (((l.getD i []).length:Int)>64)<;>rfl)
  (by
   unfold zG zW;simp only [zcV,cond_false];exact ⟨by trivial,by trivial⟩)
 rw [key.1,key.2];refine ⟨rfl,?_⟩;generalize (List.range l.length).all _=b;cases b<;>rfl
noncomputable def zAd (p:Prg):Bool:=(zU p).1
def ze3 (a b:ByteArray):Bool:=ByteArray.toList a==ByteArray.toList b
def zmm (p:Prg) (i:Nat):Bool:= !ze3 (p.globals.getD i znW).name (ByteArray.mk #[])&&(!((p.globals.getD i znW).kind != 0&&(p.globals.getD i znW).kind != 1)&&(List.range i).all (fun k=> !ze3 (p.globals.getD k znW).name (p.globals.getD i znW).name))
noncomputable def fncTest (p:Prg) (i:Nat):Bool:=zCX p (p.funcs.getD i dFnc)&&(List.range i).all (fun k=> !ze3 (p.funcs.getD k dFnc).name (p.funcs.getD i dFnc).name)
theorem zFI {p:Prg} (h:p.globals.length≤LEN):X_wok (zw p) (z6 p) X_N ((0:Int),())=true∧zd (zw p) (false,(),false,()) X_N ((0:Int),())=((List.range p.globals.length).all (zmm p),(),false,()):=
 zni (n:=p.globals.length) (C:=zmm p) h
  (fun i hi=>by
   have inner:=zni (n:=i) (step:=zO p ((i:Int),())) (ok:=z7 p ((i:Int),())) (d:=(false,(),false,())) (C:=fun k=> !ze3 (p.globals.getD k znW).name (p.globals.getD i znW).name) (zNf (Nat.le_of_lt hi) h)
    (fun j hj=>by
     unfold zO z7 ze3;simp only [Int.toNat_natCast,zcI hj,zaj (show j<p.globals.length by omega),cond_true,Bool.true_and]
     refine ⟨by trivial,?_⟩
     cases (ByteArray.toList (p.globals.getD j znW).name==ByteArray.toList (p.globals.getD i znW).name)<;>rfl)
    (by
     unfold zO z7;simp only [zcV,cond_false];exact ⟨by trivial,by trivial⟩)
   unfold zw z6 zmm;simp only [Int.toNat_natCast,zcI hi,zaj hi,cond_true,inner.1,inner.2,Bool.true_and];generalize (List.range i).all _=b;rw [show (ByteArray.toList (p.globals.getD i znW).name==ByteArray.toList (ByteArray.mk #[]))=ze3 (p.globals.getD i znW).name (ByteArray.mk #[]) from rfl];cases ze3 (p.globals.getD i znW).name (ByteArray.mk #[])<;>cases ((p.globals.getD i znW).kind != 0)<;>cases ((p.globals.getD i znW).kind != 1)<;>cases b<;>exact ⟨rfl,rfl⟩)
  (by
   unfold zw z6;simp only [zcV,cond_false];exact ⟨by trivial,by trivial⟩)
theorem zFF {p:Prg} (h:p.funcs.length≤LEN):X_wok (zE p) (z8 p) X_N ((0:Int),())=true∧zd (zE p) (false,(),false,()) X_N ((0:Int),())=((List.range p.funcs.length).all (fncTest p),(),false,()):=
 zni (n:=p.funcs.length) (C:=fncTest p) h
  (fun i hi=>by
   have inner:=zni (n:=i) (step:=interleaveref09_ValidF_l6 p ((i:Int),())) (ok:=interleaveref09_ValidF_k6 p ((i:Int),())) (d:=(false,(),false,())) (C:=fun k=> !ze3 (p.funcs.getD k dFnc).name (p.funcs.getD i dFnc).name) (zNf (Nat.le_of_lt hi) h)
    (fun j hj=>by
     unfold interleaveref09_ValidF_l6 interleaveref09_ValidF_k6 ze3;simp only [Int.toNat_natCast,zcI hj,zaj (show j<p.funcs.length by omega),zaj hi,cond_true,Bool.true_and]
     refine ⟨by trivial,?_⟩
     cases (ByteArray.toList (p.funcs.getD j dFnc).name==ByteArray.toList (p.funcs.getD i dFnc).name)<;>rfl)
    (by
     unfold interleaveref09_ValidF_l6 interleaveref09_ValidF_k6;simp only [zcV,cond_false];exact ⟨by trivial,by trivial⟩)
   have hf:=zCY p (p.funcs.getD i dFnc);unfold zE z8 fncTest;simp only [Int.toNat_natCast,zcI hi,zaj hi,cond_true,inner.1,inner.2,hf.1,Bool.true_and];rw [show (interleaveref09_functionF_s p (p.funcs.getD i dFnc)).1=zCX p (p.funcs.getD i dFnc) from rfl];generalize (List.range i).all _=b;cases zCX p (p.funcs.getD i dFnc)<;>cases b<;>exact ⟨rfl,rfl⟩)
  (by
   unfold zE z8;simp only [zcV,cond_false];exact ⟨by trivial,by trivial⟩)
structure zFa (p:Prg):Prop where
 nf:p.funcs.length≤64
 ng:p.globals.length≤64
 nl:p.layouts.length≤32∧∀l∈p.layouts,l.length≤64
 main:0≤p.main∧p.main<(p.funcs.length:Int)∧(p.funcs.getD p.main.toNat dFnc).params=0
 funs:∀f∈p.funcs,zE9 p f
theorem zGN {p:Prg} (h1:p.layouts.length≤LEN) (h2:∀x∈p.layouts,x.length≤LEN):zaJ p=true∧(zAd p=true→zFa p):=by
 unfold zAd;rw [zc7,zc6];unfold zbC zbD;have hL:=zJt h1 h2;by_cases hf:p.funcs.length≤64
 ·by_cases hg:p.globals.length≤64
  ·have hG:=zFI (p:=p) (zNf hg (by decide))
   have hF:=zFF (p:=p) (zNf hf (by decide))
   have e1:decide ((p.funcs.length:Int)>64)=false:=decide_eq_false (by omega)
   have e2:decide ((p.globals.length:Int)>64)=false:=decide_eq_false (by omega)
   simp only [e1,e2,Bool.not_false,cond_true,hL.1,hL.2,Bool.true_and,hG.1,hG.2,hF.1,hF.2];cases h3:((List.range p.layouts.length).all (fun i=>zoZ (p.layouts.getD i []))&&decide ((p.layouts.length:Int)≤32)) with
   |false=>exact ⟨by trivial,fun h=>(by cases h)⟩
   |true=>
    cases h4:decide (p.main<0) with
    |true=>exact ⟨by trivial,fun h=>(by cases h)⟩
    |false=>
     cases h5:decide (p.main≥(p.funcs.length:Int)) with
     |true=>exact ⟨by trivial,fun h=>(by cases h)⟩
     |false=>
      have h4:=of_decide_eq_false h4;have h5:=of_decide_eq_false h5;have e6:decide ((0:Int)≤p.main∧p.main<(p.funcs.length:Int))=true:=decide_eq_true ⟨by omega,by omega⟩
      simp only [Bool.not_true,Bool.not_false,cond_true,e6,Bool.true_and];cases h6:((p.funcs.getD (Int.toNat p.main) dFnc).params != 0) with
      |true=>exact ⟨by trivial,fun h=>(by cases h)⟩
      |false=>
       simp only [cond_false];refine ⟨by cases (List.range p.globals.length).all (zmm p)<;>rfl,fun h=>?_⟩
       have h7:(List.range p.globals.length).all (zmm p)=true∧(List.range p.funcs.length).all (fncTest p)=true:=by
        revert h;cases (List.range p.globals.length).all (zmm p)<;>cases (List.range p.funcs.length).all (fncTest p)<;>intro h<;>first|exact ⟨rfl,rfl⟩|cases h
       rw [Bool.and_eq_true] at h3;refine ⟨hf,hg,⟨by have:=of_decide_eq_true h3.2;omega,fun l hl=>?_⟩,⟨by omega,by omega,by simpa using h6⟩,fun f hfm=>?_⟩
       ·obtain ⟨i,hi,rfl⟩:=List.mem_iff_getElem.1 hl;have:=zok h3.1 hi;rw [List.getD_eq_getElem?_getD,zNg hi,Option.getD_some] at this;unfold zoZ at this;rw [Bool.and_eq_true] at this;have:=of_decide_eq_false (show decide ((p.layouts[i].length:Int)>64)=false by simpa using this.2)
        omega
       ·obtain ⟨i,hi,rfl⟩:=List.mem_iff_getElem.1 hfm;have:=zok h7.2 hi;unfold fncTest at this;rw [Bool.and_eq_true,List.getD_eq_getElem?_getD,zNg hi,Option.getD_some] at this;exact (zCY p p.funcs[i]).2 this.1
  ·have e1:decide ((p.funcs.length:Int)>64)=false:=decide_eq_false (by omega)
   have e2:decide ((p.globals.length:Int)>64)=true:=decide_eq_true (by omega)
   simp only [e1,e2,Bool.not_false,Bool.not_true,cond_true,cond_false];exact ⟨by trivial,fun h=>(by cases h)⟩
 ·have e1:decide ((p.funcs.length:Int)>64)=true:=decide_eq_true (by omega)
  simp only [e1,Bool.not_true,cond_false];exact ⟨by trivial,fun h=>(by cases h)⟩
theorem zrS {p:Prg} {f:Fnc} {i:Ins} {op d e:Int} {k:Nat} (h:zIR p f i (zm1 i.op k) e=true) (ho:i.op=op) (hr:zm1 op k=d):(ziN p f i d e).1=true:=by
 rw [ho,hr] at h;unfold zIR at h
 rwa [zhR] at h
theorem zyT {p:Prg} {f:Fnc} (h:zE9 p f) {i:Ins} (hi:i∈f.code):zrH p f i=true:=by
 obtain ⟨j,hj,rfl⟩:=List.mem_iff_getElem.1 hi;have:=h.tst j hj;unfold zaI at this;rw [Bool.and_eq_true,List.getD_eq_getElem?_getD,zNg hj,Option.getD_some] at this;exact this.2
theorem zGT {p:Prg} (h:zFa p):POk 1000 p where
 sz:=⟨⟨by have:=h.nf;omega,fun f hf=>(h.funs f hf).len.2⟩,by have:=h.ng;omega,by have:=h.nl.1;omega,fun l hl=>by have:=h.nl.2 l hl;omega⟩
 fn:=fun f hf=>by have:=(h.funs f hf).par;exact ⟨this.1,this.2.1,by omega⟩
 ops:=fun f hf i hi=>(zjy (zyT (h.funs f hf) hi)).1
 ins:=fun f hf i hi ho=>by
  have ht:=zjy (zyT (h.funs f hf) hi);obtain ⟨⟨t1,t2⟩,ta,tb,tc,t24,_⟩:=ht;refine ⟨⟨⟨fun e=>?_,fun e=>?_⟩,t1,ho,fun e=>?_⟩,fun e=>?_⟩
  ·have:=zrS tb (beq_iff_eq.1 e) (d:=108) (by unfold zm1;rw [zbt];kernel_rfl)
   have:=zzi (show (bif decide (i.b≥0) then (decide (i.b<(p.layouts.length:Int)),()) else (false,())).1=true from this)
   exact ⟨of_decide_eq_true this.1,of_decide_eq_true this.2⟩
  ·have:=(t24 (beq_iff_eq.1 e)).1;have:=zc4;omega
  ·have:(bif decide (i.b≥0) then bif decide (i.b<(p.funcs.length:Int)) then bif decide (i.c≥0) then (decide (i.c≤IntKind.i64.wrap (f.regs - (p.funcs.getD i.b.toNat dFnc).params)),()) else (false,()) else (false,()) else (false,())).1=true:=by
    rcases Bool.or_eq_true _ _▸e with e|e
    ·exact zrS tb (beq_iff_eq.1 e) (d:=102) (by unfold zm1;rw [zbt];kernel_rfl)
    ·exact zrS tb (beq_iff_eq.1 e) (d:=102) (by unfold zm1;rw [zbt];kernel_rfl)
   obtain ⟨a1,a2⟩:=znj this;exact ⟨of_decide_eq_true a1,of_decide_eq_true (znj a2).1⟩
  ·have:=(t24 (beq_iff_eq.1 e)).1;omega
 jmp:=fun f hf i hi ho=>by
  have ht:=zjy (zyT (h.funs f hf) hi);obtain ⟨⟨t1,t2⟩,ta,tb,tc,t24,_⟩:=ht;have:(bif decide (i.c≥0) then bif decide (i.c<(f.code.length:Int)) then ((f.code.getD i.c.toNat dIns).op != 51,()) else (false,()) else (false,())).1=true:=by
   rcases ho with e|e|e
   ·exact zrS tc e (d:=106) (by unfold zm1;rw [zbt];kernel_rfl)
   ·exact zrS tc e (d:=106) (by unfold zm1;rw [zbt];kernel_rfl)
   ·exact zrS tc e (d:=106) (by unfold zm1;rw [zbt];kernel_rfl)
  obtain ⟨a1,a2⟩:=znj this;obtain ⟨a3,a4⟩:=znj a2;exact ⟨of_decide_eq_true a1,of_decide_eq_true a3,by simpa using a4⟩
 nxt:=fun f hf j hj h0 h1=>by
  have hF:=h.funs f hf;have t1:=hF.tst j (by omega)
  have t2:=hF.tst (j+1) hj;unfold zaI at t1 t2;rw [Bool.and_eq_true] at t1 t2;have t1:=beq_iff_eq.1 t1.1;have t2:=beq_iff_eq.1 t2.1;rw [beq_eq_false_iff_ne.2 h1] at t1;rw [zo3] at t2;rw [beq_eq_false_iff_ne.2 h0,t1] at t2;simp only [cond_false,t1] at t2;intro e;rw [e] at t2;cases t2
 fst:=fun f hf=>by
  have hF:=h.funs f hf;have t1:=hF.tst 0 hF.len.1;unfold zaI at t1;rw [Bool.and_eq_true] at t1;have t1:=beq_iff_eq.1 t1.1;intro e;rw [e] at t1;cases t1
theorem znh {n:Nat} {step:Int×Unit→(Int×Unit)⊕(Bool×Unit×(Bool×Unit))} {ok:Int×Unit→Bool} {d:Bool×Unit×(Bool×Unit)} (hn:n≤BIG)
  (h1:∀i:Nat,i<n→ok ((i:Int),())=true∧step ((i:Int),())= .inl (IntKind.i64.wrap ((i:Int)+1),()))
  (h2:ok ((n:Int),())=true∧step ((n:Int),())= .inr (true,(),false,())):
  X_wok step ok X_N ((0:Int),())=true∧zd step d X_N ((0:Int),())=(true,(),false,()):=by
 have hB:=zc4;have:=zni (n:=n) (step:=step) (ok:=ok) (d:=d) (C:=fun _=>true) (by omega) (fun i hi=>⟨(h1 i hi).1,by rw [(h1 i hi).2];rfl⟩) h2
 refine ⟨this.1,?_⟩;rw [this.2];have:(List.range n).all (fun _=>true)=true:=List.all_eq_true.2 fun _ _=>rfl;rw [this]
theorem zfG (a:Int):(a != a)=false:=bne_self_eq_false _
theorem zuy {a:List Int} (h:a.length≤BIG):ziL a a=true∧zhg a a=(true,()):=by
 have hp:=znh (n:=a.length) (step:=ze9 a a) (ok:=zhf a a) (d:=(false,(),false,())) h
  (fun i hi=>by
   unfold ze9 zhf;simp only [Int.toNat_natCast,zcI hi,zaj hi,cond_true,zfG,cond_false,Bool.and_self];exact ⟨by trivial,by trivial⟩)
  (by
   unfold ze9 zhf;simp only [zcV,cond_false];exact ⟨by trivial,by trivial⟩)
 rw [zrZ,zrY];unfold zpe zpg;simp only [zfG,cond_false,hp.1,hp.2,cond_true];exact ⟨by trivial,by trivial⟩
theorem zAc (v:Val):(v.kind==v.kind&&(v.n==v.n&&(v.off==v.off&&true)))=true:=by simp
theorem zhC {a:List Val} (h:a.length≤BIG):zba a a=true∧z9 a a=(true,()):=by
 have hp:=znh (n:=a.length) (step:=zbg a a) (ok:=zci a a) (d:=(false,(),false,())) h
  (fun i hi=>by
   unfold zbg zci;simp only [Int.toNat_natCast,zcI hi,zaj hi,cond_true,zAc,Bool.not_true,cond_false,Bool.and_self];exact ⟨by trivial,by trivial⟩)
  (by
   unfold zbg zci;simp only [zcV,cond_false];exact ⟨by trivial,by trivial⟩)
 rw [zie,zid];unfold zfT zfU;simp only [zfG,cond_false,hp.1,hp.2,cond_true];exact ⟨by trivial,by trivial⟩
theorem zGR (v:Wtr):(v.g==v.g&&(v.case_==v.case_&&(v.val.kind==v.val.kind&&(v.val.n==v.val.n&&(v.val.off==v.val.off&&true))&&true)))=true:=by simp
theorem zng {a:List Wtr} (h:a.length≤BIG):zcj a a=true∧zbh a a=(true,()):=by
 have hp:=znh (n:=a.length) (step:=zaZ a a) (ok:=zbK a a) (d:=(false,(),false,())) h
  (fun i hi=>by
   unfold zaZ zbK;simp only [Int.toNat_natCast,zcI hi,zaj hi,cond_true,zGR,Bool.not_true,cond_false,Bool.and_self];exact ⟨by trivial,by trivial⟩)
  (by
   unfold zaZ zbK;simp only [zcV,cond_false];exact ⟨by trivial,by trivial⟩)
 rw [zhr,zhq];unfold zeQ zeR;simp only [zfG,cond_false,hp.1,hp.2,cond_true];exact ⟨by trivial,by trivial⟩
theorem zzn (a:Int):(a==a)=true:=beq_self_eq_true _
theorem zuL (a:Bool):(a==a)=true:=by cases a<;>rfl
theorem zw5 {o:Ob} (h:zB5 BIG o):zdD o o=true∧zdE o o=(true,()):=by
 obtain ⟨h1,h2,h3,h4⟩:=h;have a1:=zhC h1;have a2:=zhC h2;have a3:=zng h3;have a4:=zng h4;rw [zic,zib];unfold zfR zfS;simp only [zzn,zuL,a1.1,a1.2,a2.1,a2.2,a3.1,a3.2,a4.1,a4.2,cond_true,Bool.and_self];exact ⟨by trivial,by trivial⟩
theorem zuz {a:List Ob} (h:a.length≤BIG) (h2:∀o∈a,zB5 BIG o):zdf a a=true∧zch a a=(true,()):=by
 have hp:=znh (n:=a.length) (step:=zaY a a) (ok:=zbI a a) (d:=(false,(),false,())) h
  (fun i hi=>by
   have ho:=zw5 (h2 (a.getD i dOb) (getD_mem hi));unfold zaY zbI;simp only [Int.toNat_natCast,zcI hi,zaj hi,cond_true,ho.1,ho.2,Bool.not_true,cond_false,Bool.and_self];exact ⟨by trivial,by trivial⟩)
  (by
   unfold zaY zbI;simp only [zcV,cond_false];exact ⟨by trivial,by trivial⟩)
 rw [zho,zhn];unfold zeO zeP;simp only [zfG,cond_false,hp.1,hp.2,cond_true];exact ⟨by trivial,by trivial⟩
theorem zAf {a:List Syn} (h:a.length≤BIG) (h2:∀s∈a,zGK BIG s):zej a a=true∧zdb a a=(true,()):=by
 have hp:=znh (n:=a.length) (step:=zbJ a a) (ok:=zcK a a) (d:=(false,(),false,())) h
  (fun i hi=>by
   have ho:=zuy (show (a.getD i zzk).readers.length≤BIG from h2 (a.getD i zzk) (getD_mem hi));unfold zbJ zcK;simp only [Int.toNat_natCast,zcI hi,zaj hi,cond_true,zfG,ho.1,ho.2,Bool.not_true,Bool.not_false,cond_false,Bool.and_self];exact ⟨by trivial,by trivial⟩)
  (by
   unfold zbJ zcK;simp only [zcV,cond_false];exact ⟨by trivial,by trivial⟩)
 rw [ziT,ziS];unfold zgB zgC;simp only [zfG,cond_false,hp.1,hp.2,cond_true];exact ⟨by trivial,by trivial⟩
theorem zw4 {a:List Frm} (h:a.length≤BIG) (h2:∀f∈a,zgU BIG f):zdG a a=true∧zdH a a=(true,()):=by
 have hp:=znh (n:=a.length) (step:=zbi a a) (ok:=zck a a) (d:=(false,(),false,())) h
  (fun i hi=>by
   have hf:=h2 (a.getD i zo) (getD_mem hi);have hv:=zhC hf.1;have inner:=znh (n:=(a.getD i zo).defers.length) (step:=zbj a a ((i:Int),())) (ok:=zcl a a ((i:Int),())) (d:=(false,(),false,())) hf.2.1
    (fun j hj=>by
     have hd:=zhC (hf.2.2 _ (getD_mem (d:=zoB) hj));unfold zbj zcl;simp only [Int.toNat_natCast,zcI hj,zaj hj,cond_true,zfG,hd.1,hd.2,Bool.not_true,Bool.not_false,cond_false,Bool.and_self];exact ⟨by trivial,by trivial⟩)
    (by
     unfold zbj zcl;simp only [Int.toNat_natCast,zcV,cond_false];exact ⟨by trivial,by trivial⟩)
   unfold zbi zck;simp only [Int.toNat_natCast,zcI hi,zaj hi,cond_true,zfG,zuL,zAc,hv.1,hv.2,inner.1,inner.2,Bool.not_true,Bool.not_false,cond_false,Bool.and_self];exact ⟨by trivial,by trivial⟩)
  (by
   unfold zbi zck;simp only [zcV,cond_false];exact ⟨by trivial,by trivial⟩)
 rw [zig,zif];unfold zfW zfX;simp only [zfG,cond_false,hp.1,hp.2,cond_true];exact ⟨by trivial,by trivial⟩
theorem zqL {g:Gor} (h:zaW BIG g):zcE g g=true∧zcF g g=(true,()):=by
 have hf:=zw4 h.1 h.2;rw [zfQ,zfP];unfold zdB zdC;simp only [zzn,hf.1,hf.2,cond_true];exact ⟨by trivial,by trivial⟩
theorem zuA {m:Mac} (h:zau BIG m):zfV m m=true∧zdF m m=(true,()):=by
 have h1:=zuz h.1.1 h.1.2;have h2:=zAf h.2.1.1 h.2.1.2;have h3:=zuy h.2.2.2;have hp:=znh (n:=m.goroutines.length) (step:=zfd m m) (ok:=zhs m m) (d:=(false,(),false,())) h.2.2.1.1
  (fun i hi=>by
   have ho:=zqL (h.2.2.1.2 (m.goroutines.getD i zan) (getD_mem hi));unfold zfd zhs;simp only [Int.toNat_natCast,zcI hi,zaj hi,cond_true,ho.1,ho.2,Bool.not_true,cond_false,Bool.and_self];exact ⟨by trivial,by trivial⟩)
  (by
   unfold zfd zhs;simp only [zcV,cond_false];exact ⟨by trivial,by trivial⟩)
 rw [zr9,zr8];unfold zpy zpz;simp only [h1.1,h1.2,h2.1,h2.2,h3.1,h3.2,hp.1,hp.2,zfG,Bool.not_true,Bool.not_false,cond_false,cond_true,Bool.and_self];exact ⟨by trivial,by trivial⟩
end Go.Proofs.YtiepllpgifnloaaGreat.Px
namespace Go.Proofs.YtiepllpgifnloaaGreat.Vx
open Go.RowKit
def zBQ {α:Type}:VT α→Option α
 | .ret a=>some a
 | .fork c t e=>match c with
   |true=>zBQ t
   |false=>zBQ e
 |_=>none
theorem zod {α:Type}:∀{t:VT α} {a:α},zBQ t=some a→t.out=some a
 | .ret a,b,h=>h
 | .fork c t e,a,h=>by
   cases c with
   |true=>exact zod (t:=t) h
   |false=>exact zod (t:=e) h
 | .must _ _ _,_,h=>by cases h
 | .fail _ _,_,h=>by cases h
theorem zp9 {α β:Type} {f:α→VT β}:∀{t:VT α} {b:β},zBQ (t.bind f)=some b→∃a,zBQ t=some a∧zBQ (f a)=some b
 | .ret a,b,h=>⟨a,rfl,h⟩
 | .fork c t e,b,h=>by
   cases c with
   |true=>exact zp9 (t:=t) h
   |false=>exact zp9 (t:=e) h
 | .must _ _ _,_,h=>by cases h
 | .fail _ _,_,h=>by cases h
theorem zgJ {α β:Type} {f:α→VT β}:∀{t:VT α} {a:α} {b:β},zBQ t=some a→zBQ (f a)=some b→zBQ (t.bind f)=some b
 | .ret a,a',b,h,h'=>by obtain rfl:=zM8 h;exact h'
 | .fork c t e,a,b,h,h'=>by
   cases c with
   |true=>exact zgJ (t:=t) h h'
   |false=>exact zgJ (t:=e) h h'
 | .must _ _ _,_,_,h,_=>by cases h
 | .fail _ _,_,_,h,_=>by cases h
def zAS:List Nat→List Nat→Bool
 |[],[]=>true
 |a::l,b::m=>Nat.beq a b&&zAS l m
 |_,_=>false
theorem zzm:∀{a b:List Nat},zAS a b=true→a=b
 |[],[],_=>rfl
 |a::l,b::m,h=>by
  simp only [zAS,Bool.and_eq_true] at h;rw [zM9 h.1,zzm h.2]
 |[],_::_,h=>by simp [zAS] at h
 |_::_,[],h=>by simp [zAS] at h
def bs (l:List Nat):ByteArray:=⟨⟨l.map UInt8.ofNat⟩⟩
def unbs:ByteArray→List Nat
 |⟨⟨l⟩⟩=>l.map UInt8.toNat
theorem zE3:∀{l m:List UInt8},l.map UInt8.toNat=m.map UInt8.toNat→l=m
 |[],[],_=>rfl
 |a::l,b::m,h=>by
  simp only [List.map_cons,List.cons.injEq] at h;rw [UInt8.toNat_inj.mp h.1,zE3 h.2]
 |[],_::_,h=>by simp at h
 |_::_,[],h=>by simp at h
theorem zGL {a b:ByteArray} (h:unbs a=unbs b):a=b:=by
 obtain ⟨⟨l⟩⟩:=a;obtain ⟨⟨m⟩⟩:=b;simp only [unbs] at h;rw [zE3 h]
def zCO:Value→Value→Bool
 | .int k n, .int j m=>decide (k=j)&&decide (n=m)
 | .bool b, .bool c=>match b,c with
   |true,true=>true
   |false,false=>true
   |_,_=>false
 | .string s, .string r=>zAS (unbs s) (unbs r)
 | .slice none l c, .slice none l' c'=>Nat.beq l l'&&Nat.beq c c'
 | .pointer none, .pointer none=>true
 | .map none, .map none=>true
 | .nilFunc, .nilFunc=>true
 | .nilIface, .nilIface=>true
 |_,_=>false
theorem zCP {v u:Value} (h:zCO v u=true):v=u:=by
 unfold zCO at h;split at h
 ·simp only [Bool.and_eq_true,decide_eq_true_eq] at h;obtain ⟨rfl,rfl⟩:=h;rfl
 ·split at h<;>first|rfl|cases h
 ·rw [zGL (zzm h)]
 ·simp only [Bool.and_eq_true] at h;rw [zM9 h.1,zM9 h.2]
 ·rfl
 ·rfl
 ·rfl
 ·rfl
 ·cases h
def eqB:Bool→Bool→Bool
 |true,true=>true
 |false,false=>true
 |_,_=>false
theorem zJd {a b:Bool} (h:eqB a b=true):a=b:=by
 cases a<;>cases b<;>first|rfl|cases h
mutual
def zqQ:AV→AV→Bool
 | .lit v, .lit u=>zCO v u
 | .ptr b o, .ptr c p=>Nat.beq b c&&Nat.beq o p
 | .sl b o l c p, .sl b' o' l' c' p'=>Nat.beq b b'&&(Nat.beq o o'&&(Nat.beq l l'&&(Nat.beq c c'&&eqB p p')))
 | .emp, .emp=>true
 | .emz, .emz=>true
 | .mp b, .mp c=>Nat.beq b c
 | .fn f l, .fn g m=>Nat.beq f g&&eqAVsm l m
 | .bm f l, .bm g m=>Nat.beq f g&&eqAVsm l m
 | .agg l, .agg m=>eqAVsm l m
 | .tup l, .tup m=>eqAVsm l m
 | .dead, .dead=>true
 |_,_=>false
def eqAVsm:List AV→List AV→Bool
 |[],[]=>true
 |a::l,b::m=>zqQ a b&&eqAVsm l m
 |_,_=>false
end
mutual
theorem zzl:∀{a b:AV},zqQ a b=true→a=b:=fun {a b} h=>by
 cases a<;>cases b<;>first
  |(simp only [zqQ] at h;exact congrArg _ (zCP h))
  |(simp only [zqQ,Bool.and_eq_true] at h;obtain ⟨h1,h2⟩:=h;rw [zM9 h1,zM9 h2];done)
  |(simp only [zqQ,Bool.and_eq_true] at h;obtain ⟨h1,h2,h3,h4,h5⟩:=h;rw [zM9 h1,zM9 h2,zM9 h3,zM9 h4,zJd h5];done)
  |rfl
  |(simp only [zqQ] at h;rw [zM9 h];done)
  |(simp only [zqQ,Bool.and_eq_true] at h;obtain ⟨h1,h2⟩:=h;rw [zM9 h1,eqAVsm_eq h2];done)
  |(simp only [zqQ] at h;rw [eqAVsm_eq h];done)
  |(simp [zqQ] at h;done)
theorem eqAVsm_eq:∀{a b:List AV},eqAVsm a b=true→a=b
 |[],[],_=>rfl
 |a::l,b::m,h=>by
  simp only [eqAVsm,Bool.and_eq_true] at h;rw [zzl h.1,eqAVsm_eq h.2]
 |[],_::_,h=>by simp [eqAVsm] at h
 |_::_,[],h=>by simp [eqAVsm] at h
end
def zLi:Option Nat→Option Nat→Bool
 |none,none=>true
 |some a,some b=>Nat.beq a b
 |_,_=>false
theorem zHH {a b:Option Nat} (h:zLi a b=true):a=b:=by
 unfold zLi at h;split at h
 ·rfl
 ·rw [zM9 h]
 ·cases h
def zLh:Bk→Bk→Bool
 |⟨t,l,o⟩,⟨t',l',o'⟩=>Nat.beq t t'&&(zLi o o'&&eqAVsm l l')
theorem zHG {a b:Bk} (h:zLh a b=true):a=b:=by
 obtain ⟨t,l,o⟩:=a;obtain ⟨t',l',o'⟩:=b;simp only [zLh,Bool.and_eq_true] at h;obtain ⟨h1,h2,h3⟩:=h;rw [zM9 h1,zHH h2,eqAVsm_eq h3]
def zAT:T Bk→T Bk→Bool
 | .e, .e=>true
 | .n none l r, .n none l' r'=>zAT l l'&&zAT r r'
 | .n (some a) l r, .n (some b) l' r'=>zLh a b&&(zAT l l'&&zAT r r')
 |_,_=>false
theorem zmj:∀{a b:T Bk},zAT a b=true→a=b
 | .e, .e,_=>rfl
 | .n none l r, .n none l' r',h=>by
   simp only [zAT,Bool.and_eq_true] at h;rw [zmj h.1,zmj h.2]
 | .n (some a) l r, .n (some b) l' r',h=>by
   simp only [zAT,Bool.and_eq_true] at h;obtain ⟨h1,h2,h3⟩:=h;rw [zHG h1,zmj h2,zmj h3]
 | .e, .n _ _ _,h=>by simp [zAT] at h
 | .n _ _ _, .e,h=>by simp [zAT] at h
 | .n none _ _, .n (some _) _ _,h=>by simp [zAT] at h
 | .n (some _) _ _, .n none _ _,h=>by simp [zAT] at h
structure Memo where
 f:FuncId
 args:List AV
 h:T Bk
 n:Nat
 v:AV
 h':T Bk
 n':Nat
def noC:Ctr:=fun _ _=> .fail 15 none
theorem zgm {P:Program} [Fast P] {f:FuncId}:zi P f noC:=fun _ _ _ _ h=>by cases h
def zb2 (m:Memo) (c:Ctr):Ctr:=fun args st=>match eqAVsm m.args args&&(Nat.beq m.n st.n&&zAT m.h st.h) with
 |true=> .ret (m.v,⟨m.h',m.n',st.wr⟩)
 |false=>c args st
def Memo.runs (P:Program) [Fast P] (own:Nat→Bool) (fuel:Nat) (call:zbx) (m:Memo):Bool:=match own m.f with
 |true=>false
 |false=>match zBQ (zxD P own fuel call m.f m.args ⟨m.h,m.n,fun _=>true⟩) with
  |some (v,st)=>zqQ v m.v&&(Nat.beq st.n m.n'&&zAT st.h m.h')
  |none=>false
def zHz (g:Nat) (st:St) (r:AV×St):AV×St:=
 match zvj r.2.h st.n g (zKn r.1 []) .e st.n [] with
 |(m,k,acc)=>
  let f:Nat→Option Nat:=fun i=>match Nat.blt i st.n with|true=>some i|false=>m.get i
  (zm0 f r.1,⟨zqc f st.h acc,k,st.wr⟩)
theorem zJa {st:St} {r:AV×St}:zGU st r=zHz 1000000 st r:=by
 delta zGU zHz
 rfl
theorem zHA {g:Nat} {h:T Bk} {n:Nat} {wr wr':Nat→Bool} {r:AV×St}:zHz g ⟨h,n,wr'⟩ r=((zHz g ⟨h,n,wr⟩ r).1,⟨(zHz g ⟨h,n,wr⟩ r).2.h,(zHz g ⟨h,n,wr⟩ r).2.n,wr'⟩):=by
 unfold zHz;rfl
theorem zFj {P:Program} [Fast P] {own:Nat→Bool} {fuel:Nat} {call:zbx} {f:FuncId} {args:List AV} {h:T Bk} {n:Nat} {wr wr':Nat→Bool} {v:AV} {st':St} (ho:own f=false)
  (hr:zBQ (zxD P own fuel call f args ⟨h,n,wr⟩)=some (v,st')):zBQ (zxD P own fuel call f args ⟨h,n,wr'⟩)=some (v,⟨st'.h,st'.n,wr'⟩):=by
 unfold zxD at hr ⊢;split at hr
 ·cases hr
 ·rename_i fn c hi;rw [ho] at hr ⊢;dsimp only at hr ⊢;obtain ⟨r,h1,h2⟩:=zp9 hr;refine zgJ h1 ?_;have e:zGU ⟨h,n,wr⟩ r=(v,st'):=zM8 h2;have e':zGU ⟨h,n,wr'⟩ r=(v,⟨st'.h,st'.n,wr'⟩):=by rw [zJa] at e ⊢;rw [zHA (wr:=wr),e]
  exact congrArg some e'
theorem zGd {P:Program} [Fast P] (hm:P.follows .mixedOrders=true) {own:Nat→Bool} {fuel:Nat} {call:zbx} (hc:zdl P call) {m:Memo} (hr:m.runs P own fuel call=true) {c:Ctr} (h:zi P m.f c):zi P m.f (zb2 m c):=by
 intro args st v st' hf;unfold zb2 at hf;split at hf
 ·rename_i he;simp only [Bool.and_eq_true] at he;obtain ⟨ha,gn,gh⟩:=he;obtain rfl:=eqAVsm_eq ha;have kn:=zM9 gn;have kh:=zmj gh;clear gn gh;obtain ⟨sh,sn,swr⟩:=st;dsimp only at kn kh hf;subst kn;subst kh;unfold Memo.runs at hr;split at hr
  ·cases hr
  ·rename_i ho;split at hr
   ·rename_i v1 st1 hrun;simp only [Bool.and_eq_true] at hr;obtain ⟨hv,hn',hh'⟩:=hr;obtain rfl:=zzl hv;have hn':=zM9 hn';have hh':=zmj hh';obtain ⟨rfl,rfl⟩:=zNb (zM8 hf);have h1:=zod (zFj (wr':=swr) ho hrun);rw [hn',hh'] at h1;exact zy9 hm own fuel hc _ _ _ _ _ h1
   ·cases hr
 ·exact h args st v st' hf
end Go.Proofs.YtiepllpgifnloaaGreat.Vx
namespace Go.Proofs.YtiepllpgifnloaaGreat.Px
open Go Go.Proofs.YtiepllpgifnloaaGreat.Vx Go.Proofs
set_option maxRecDepth 100000
def zsJ:List Nat:=[61,62,63,64,65,124,125,126,127,130,131,132,134,190,193,194,195,196,197,198,200,210,211,212,213,214,215,216,218,219,222,258,259,260,262,263,264,268,277,278,279,296,298,299,301,302,303]
noncomputable def zI5 (t:T Ctr):zbx:=@zAz Tryz.prog zp t (fun i=>mem i zsJ) 100 50
noncomputable def zhZ (t:T Ctr) (m:Memo):Bool:=@Memo.runs Tryz.prog zp (fun i=>mem i zsJ) 100 (zI5 t) m
def a0:AV:=(.lit (.int .u8 (.ofNat 0)))
def a1:Option Bk:=(.some ⟨85,[(.lit (.int .u8 (.ofNat 12))),a0,a0], .none⟩)
def a2:Option Bk:=(.some ⟨86,[(.sl 1 0 1 1 .false),(.sl 2 0 1 1 .false)], .none⟩)
def a3:Option Bk:=(.some ⟨85,[(.lit (.int .u8 (.ofNat 13))),a0,a0], .none⟩)
def a4:AV:=(.lit (.slice .none 0 0))
def a5:AV:=(.lit (.int .i64 (.ofNat 0)))
def a6:List AV:=[(.sl 4 0 2 0 .true),(.sl 7 0 9 0 .true),a4,a5]
def a7:AV:=(.agg a6)
def a8:AV:=(.lit (.bool .true))
def a9:Option Bk:=(.some ⟨96,[(.lit (.string (bs [118,48]))),a5,(.lit (.string (bs [118,49]))),a5,(.lit (.string (bs [118,50]))),a5,(.lit (.string (bs [109,48]))),a5,(.lit (.string (bs [109,49]))),a5,(.lit (.string (bs [97,48]))),a5,(.lit (.string (bs [97,49]))),a5,(.lit (.string (bs [103]))),a5,(.lit (.string (bs [111]))),a5],(.some 2)⟩)
def a10:AV:=(.lit (.int .i64 (.ofNat 1)))
def a11:AV:=(.lit (.int .i64 (.ofNat 3)))
def a12:AV:=(.lit (.int .i64 (.ofNat 23)))
def a13:AV:=(.lit (.int .i64 (.ofNat 18)))
def a14:AV:=(.lit (.int .i64 (.ofNat 2)))
def a15:AV:=(.lit (.int .i64 (.ofNat 7)))
def a16:AV:=(.lit (.int .i64 (.ofNat 43)))
def a17:AV:=(.lit (.int .i64 (.ofNat 31)))
def a18:AV:=(.lit (.int .i64 (.ofNat 30)))
def a19:AV:=(.lit (.int .i64 (.negSucc 0)))
def a20:Option Bk:=(.some ⟨89,[a10,a11,a5,a5,a5,a12,a5,a11,a5,a5,a10,a11,a10,a5,a5,a12,a10,a11,a5,a5,a13,a14,a15,a5,a5,a10,a11,a10,a5,a5,a16,a14,a11,a5,a5,a17,a5,a10,a5,a5,a10,a11,a10,a5,a5,(.lit (.int .i64 (.ofNat 47))),a5,a11,a5,a5,a18,a19,a5,a5,a5],(.some 5)⟩)
def a21:T Bk:=(.n a1 (.n a2 (.n a9 .e .e) .e) (.n a20 .e .e))
def a22:AV:=(.lit (.int .i64 (.ofNat 5)))
def a23:Option Bk:=(.some ⟨100,[(.lit (.string (bs [109,97,105,110]))),a5,a22,(.sl 5 0 11 0 .true),(.lit (.string (bs [116,49]))),a14,a22,(.sl 6 0 2 0 .true)],(.some 4)⟩)
def a24:AV:=(.lit (.int .i64 (.ofNat 48)))
def a25:AV:=(.lit (.int .i64 (.ofNat 4)))
def a26:Option Bk:=(.some ⟨89,[a24,a11,a5,a25,a5,a18,a19,a5,a5,a5],(.some 5)⟩)
def a27:List AV:=[(.sl 108 0 3 0 .true),(.sl 121 0 1 0 .true),(.sl 123 0 2 0 .true),(.sl 128 0 0 0 .false)]
def a28:Option Bk:=(.some ⟨68,[], .none⟩)
def a29:Option Bk:=(.some ⟨27,[a5,a5], .none⟩)
def a30:Option Bk:=(.some ⟨68,[a5,a5,a5,a5,a5,a5,a5,a5,a5,a5,a5,a5,a5,a5,a5,a5,a5,a5,a5,a5,a5,a5,a5,a5,a5,a5,a5],(.some 3)⟩)
def a31:AV:=(.lit (.int .i64 (.ofNat 9)))
def a32:Option Bk:=(.some ⟨68,[a14,a10,a5,a14,a31,a5,a5,a5,a5,a5,a5,a5,a5,a5,a5],(.some 3)⟩)
def a33:T Bk:=(.n a32 .e .e)
def a34:Option Bk:=(.some ⟨3,[], .none⟩)
def a35:T Bk:=(.n a34 .e .e)
def a36:T Bk:=(.n a29 (.n a30 a33 .e) a35)
def a37:Option Bk:=(.some ⟨63,[a5,a5,a14,(.sl 48 0 1 0 .true)],(.some 4)⟩)
def a38:Option Bk:=(.some ⟨68,[a14,a10,a5,a14,a31,a5,a14,a5,a15,a5,a10,a5,a5,a5,a5],(.some 3)⟩)
def a39:T Bk:=(.n a38 .e .e)
def a40:Option Bk:=(.some ⟨156,[], .none⟩)
def a41:T Bk:=(.n a40 .e .e)
def a42:AV:=(.lit (.int .i64 (.ofNat 6)))
def a43:AV:=(.lit (.bool .false))
def a44:Option Bk:=(.some ⟨134,[a5,a42,(.sl 24 0 5 0 .true),a19,a4,a43,a5,a5,a5],(.some 9)⟩)
def a45:T Bk:=(.n a28 .e .e)
def a46:T Bk:=(.n (.some ⟨3,[a5,a10], .none⟩) .e .e)
def a47:T Bk:=(.n a40 a45 a46)
def a48:T Bk:=(.n (.some ⟨134,[a10,a5,(.sl 100 0 5 0 .true),a19,a4,a43,a5,a5,a5],(.some 9)⟩) .e .e)
def a49:T Bk:=(.n a40 a45 a48)
def a50:Option Bk:=(.some ⟨3,[a5], .none⟩)
def a51:Option Bk:=(.some ⟨32,a6, .none⟩)
def a52:AV:=(.sl 76 0 0 0 .false)
def a53:Option Bk:=(.some ⟨111,[a5,a15,a11,a19,a52,a10],(.some 6)⟩)
def a54:Option Bk:=(.some ⟨38,[a4,a4,a4,a4], .none⟩)
def a55:T Bk:=(.n a54 .e .e)
def a56:T Bk:=(.n a54 a45 (.n (.some ⟨63,[a5,a5,a14,(.sl 124 0 1 0 .true),a5,a5,a5,(.sl 126 0 1 0 .true)],(.some 4)⟩) .e .e))
def a57:Option Bk:=(.some ⟨80,[a5,(.sl 10 0 9 0 .true),a43,a5,(.sl 11 0 0 0 .false),a43,a5,a5,(.sl 12 0 0 0 .false),(.sl 13 0 0 0 .false),a10,(.sl 14 0 0 0 .false),a8,a5,(.sl 15 0 0 0 .false),a43,a5,a5,(.sl 16 0 0 0 .false),(.sl 17 0 0 0 .false),a31,(.sl 18 0 0 0 .false),a8,a10,(.sl 19 0 0 0 .false),a43,a5,a5,(.sl 20 0 0 0 .false),(.sl 21 0 0 0 .false)],(.some 10)⟩)
def a58:AV:=(.lit (.int .i64 (.ofNat 8)))
def a59:T Bk:=(.n (.some ⟨134,[a5,a58,(.sl 98 0 5 0 .true),a19,a4,a43,a5,a5,a5],(.some 9)⟩) .e .e)
def a60:T Bk:=(.n a30 (.n a40 (.n (.some ⟨89,[a10,a11,a10,a5,a5], .none⟩) .e .e) .e) a59)
def a61:AV:=(.sl 84 0 0 0 .false)
def a62:AV:=(.sl 90 0 0 0 .false)
def a63:Option Bk:=(.some ⟨80,[a5,(.sl 82 0 9 0 .true),a43,a5,(.sl 83 0 0 0 .false),a43,a5,a5,a61,(.sl 85 0 0 0 .false),a10,(.sl 86 0 0 0 .false),a8,a5,(.sl 87 0 0 0 .false),a43,a5,a5,(.sl 88 0 0 0 .false),(.sl 89 0 0 0 .false),a31,a62,a8,a10,(.sl 91 0 0 0 .false),a43,a5,a5,(.sl 92 0 0 0 .false),(.sl 93 0 0 0 .false)],(.some 10)⟩)
def a64:T Bk:=(.n a51 .e .e)
def a65:List AV:=[(.sl 32 0 3 0 .true),(.sl 45 0 1 0 .true),(.sl 47 0 1 0 .true),(.sl 50 0 0 0 .false)]
def a66:Option Bk:=(.some ⟨38,a65, .none⟩)
def a67:T Bk:=(.n a66 a41 (.n (.some ⟨111,[a5,a15,a11,a19,(.sl 122 0 0 0 .false),a10],(.some 6)⟩) .e .e))
def a68:T Bk:=(.n a28 a41 a35)
def a69:Option Bk:=(.some ⟨27,[a5,a5],(.some 2)⟩)
def a70:Option Bk:=(.some ⟨111,[a5,a15,a11,a19,(.sl 46 0 0 0 .false),a10],(.some 6)⟩)
def a71:List AV:=[a5,a5,a14,(.sl 78 0 1 0 .true)]
def a72:Option Bk:=(.some ⟨63,a71,(.some 4)⟩)
def a73:T Bk:=(.n a30 .e .e)
def a74:Option Bk:=(.some ⟨89,[a17,a5,a10,a5,a5], .none⟩)
def a75:AV:=(.sl 41 0 0 0 .false)
def a76:Option Bk:=(.some ⟨80,[a5,(.sl 33 0 9 0 .true),a43,a5,(.sl 34 0 0 0 .false),a43,a5,a5,(.sl 35 0 0 0 .false),(.sl 36 0 0 0 .false),a10,(.sl 37 0 0 0 .false),a8,a5,(.sl 38 0 0 0 .false),a43,a5,a5,(.sl 39 0 0 0 .false),(.sl 40 0 0 0 .false),a31,a75,a8,a10,(.sl 42 0 0 0 .false),a43,a5,a5,(.sl 43 0 0 0 .false),(.sl 44 0 0 0 .false)],(.some 10)⟩)
def a77:T Bk:=(.n a28 a35 .e)
def a78:T Bk:=(.n (.some ⟨63,[a5,a5,a14,(.sl 97 0 1 0 .true),a5,a5,a5,(.sl 99 0 1 0 .true)],(.some 4)⟩) .e .e)
def a79:Option Bk:=(.some ⟨134,[a5,a15,(.sl 49 0 5 0 .true),a19,a4,a43,a5,a5,a5],(.some 9)⟩)
def a80:List AV:=[(.sl 81 0 3 0 .true),(.sl 94 0 1 0 .true),(.sl 96 0 2 0 .true),(.sl 101 0 0 0 .false)]
def a81:T Bk:=(.n (.some ⟨38,a80, .none⟩) .e .e)
def a82:T Bk:=(.n a40 a45 a81)
def a83:T Bk:=(.n a40 (.n a40 a45 a33) (.n a29 a41 a41))
def a84:T Bk:=(.n (.some ⟨80,[a5,(.sl 109 0 9 0 .true),a43,a5,(.sl 110 0 0 0 .false),a43,a5,a5,(.sl 111 0 0 0 .false),(.sl 112 0 0 0 .false),a10,(.sl 113 0 0 0 .false),a8,a5,(.sl 114 0 0 0 .false),a43,a5,a5,(.sl 115 0 0 0 .false),(.sl 116 0 0 0 .false),a31,(.sl 117 0 0 0 .false),a8,a10,(.sl 118 0 0 0 .false),a43,a5,a5,(.sl 119 0 0 0 .false),(.sl 120 0 0 0 .false)],(.some 10)⟩) .e .e)
def a85:T Bk:=(.n a50 a41 (.n (.some ⟨134,[a5,a58,(.sl 125 0 5 0 .true),a19,a4,a43,a5,a5,a5],(.some 9)⟩) .e .e))
def a86:T Bk:=(.n a28 (.n a28 a41 a39) (.n a34 a73 a45))
def a87:Option Bk:=(.some ⟨5,[a0,a0], .none⟩)
def a88:T Bk:=(.n (.some ⟨38,a27, .none⟩) .e .e)
def a89:T Bk:=(.n a29 a45 a35)
def a90:Option Bk:=(.some ⟨63,[a5,a5,a14,(.sl 23 0 1 0 .true)],(.some 4)⟩)
def a91:T Bk:=(.n (.some ⟨65,[a5,(.lit (.int .i64 (.ofNat 14))),a5,a5,a10,a5,a5,a15,a5], .none⟩) .e .e)
def a92:T Bk:=(.n a28 a41 a91)
def a93:Option Bk:=(.some ⟨134,[a5,a15,(.sl 79 0 5 0 .true),a19,a4,a43,a5,a5,a5],(.some 9)⟩)
def a94:T Bk:=(.n a34 (.n a93 .e .e) a45)
def a95:AV:=(.sl 64 0 0 0 .false)
def a96:AV:=(.sl 65 0 0 0 .false)
def a97:AV:=(.sl 66 0 0 0 .false)
def a98:AV:=(.sl 67 0 0 0 .false)
def a99:AV:=(.sl 70 0 0 0 .false)
def zIG:Option Bk:=(.some ⟨80,[a5,(.sl 63 0 9 0 .true),a43,a5,a95,a43,a5,a5,a96,a97,a10,a98,a8,a5,(.sl 68 0 0 0 .false),a43,a5,a5,(.sl 69 0 0 0 .false),a99,a31,(.sl 71 0 0 0 .false),a8,a10,(.sl 72 0 0 0 .false),a43,a5,a5,(.sl 73 0 0 0 .false),(.sl 74 0 0 0 .false)],(.some 10)⟩)
def zKb:T Bk:=(.n (.some ⟨111,[a5,a15,a11,a19,(.sl 95 0 0 0 .false),a10],(.some 6)⟩) .e .e)
def zLR:T Bk:=(.n zIG zKb (.n (.some ⟨134,[a10,a5,(.sl 127 0 5 0 .true),a19,a4,a43,a5,a5,a5],(.some 9)⟩) .e .e))
def zE7:T Bk:=(.n a28 a45 .e)
def zIH:T Bk:=(.n a28 a39 .e)
def zw6:T Bk:=(.n a40 a41 .e)
def zKc:T Bk:=(.n a34 a45 .e)
def zKI:T Bk:=(.n a40 (.n a53 .e .e) .e)
def zw3:T Bk:=(.n a28 a41 .e)
def zKJ:T Bk:=(.n a70 (.n a72 .e .e) .e)
def zLS:T Bk:=(.n a1 (.n a2 (.n a9 (.n a28 (.n a29 a73 a35) (.n a37 a39 .e)) (.n a44 a47 (.n a29 a45 .e))) (.n a28 (.n a28 a49 (.n a50 a45 .e)) (.n a51 zKI (.n a54 a45 .e)))) (.n a20 (.n a57 (.n a40 (.n a30 a41 a59) (.n a38 (.n a63 .e .e) .e)) (.n a34 zw3 (.n a66 a41 .e))) (.n a40 (.n a40 a68 (.n a69 a41 .e)) (.n a54 zKJ (.n a74 a41 .e)))))
def zLT:T Bk:=(.n a40 (.n a76 a45 a78) (.n a79 a35 .e))
def zII:T Bk:=(.n a29 a41 .e)
def zCh:T Bk:=(.n a40 a35 .e)
def zLU:T Bk:=(.n a40 (.n a40 (.n a40 a45 a33) zII) (.n a66 zCh (.n a50 a41 .e)))
def zKK:T Bk:=(.n a34 (.n a93 .e .e) .e)
def zLV:T Bk:=(.n a26 (.n a30 (.n a28 (.n a28 a41 a39) (.n a34 a73 .e)) (.n a87 zw3 (.n a29 a45 .e))) (.n a28 (.n a90 a92 (.n a69 a45 .e)) (.n a69 zKK (.n zIG zKb .e))))
def zKL:List AV:=[(.sl 105 0 3 0 .true),(.sl 118 0 1 0 .true),(.sl 120 0 2 0 .true),(.sl 125 0 0 0 .false)]
def zLW:T Bk:=(.n a54 a45 (.n (.some ⟨134,[a10,a5,(.sl 124 0 5 0 .true),a19,a4,a43,a5,a5,a5],(.some 9)⟩) .e .e))
def zLX:T Bk:=(.n (.some ⟨80,[a5,(.sl 106 0 9 0 .true),a43,a5,(.sl 107 0 0 0 .false),a43,a5,a5,(.sl 108 0 0 0 .false),(.sl 109 0 0 0 .false),a10,(.sl 110 0 0 0 .false),a8,a5,(.sl 111 0 0 0 .false),a43,a5,a5,(.sl 112 0 0 0 .false),(.sl 113 0 0 0 .false),a31,(.sl 114 0 0 0 .false),a8,a10,(.sl 115 0 0 0 .false),a43,a5,a5,(.sl 116 0 0 0 .false),(.sl 117 0 0 0 .false)],(.some 10)⟩) .e .e)
def zLY:T Bk:=(.n a66 a41 (.n (.some ⟨134,[a5,a31,(.sl 122 0 5 0 .true),a19,a4,a43,a5,a5,a5],(.some 9)⟩) .e .e))
def zKM:T Bk:=(.n a69 a41 a41)
def zLZ:T Bk:=(.n a1 (.n a2 (.n a9 (.n a28 (.n a29 a73 a35) (.n a37 a39 a45)) (.n a44 a47 a89)) (.n a28 (.n a28 a49 (.n a50 a45 a45)) (.n a51 (.n a40 (.n a53 .e .e) a45) zLW))) (.n a20 (.n a57 (.n a40 (.n a30 a41 a59) (.n a38 (.n a63 .e .e) a41)) (.n a34 (.n a28 a41 zLX) zLY)) (.n a40 (.n a40 a68 zKM) (.n a54 (.n a70 (.n a72 .e .e) a41) (.n a74 a41 a35)))))
def zL0:T Bk:=(.n a40 (.n a76 a45 a78) (.n a79 a35 a41))
def zKN:T Bk:=(.n a51 a41 (.n (.some ⟨63,[a5,a5,a14,(.sl 121 0 1 0 .true),a5,a5,a5,(.sl 123 0 1 0 .true)],(.some 4)⟩) .e .e))
def zL1:T Bk:=(.n a40 a83 (.n a66 (.n a40 a35 a41) (.n a50 a41 a33)))
def zL2:T Bk:=(.n a69 a45 (.n (.some ⟨111,[a5,a15,a11,a19,(.sl 119 0 0 0 .false),a10],(.some 6)⟩) .e .e))
def zL3:T Bk:=(.n a26 (.n a30 a86 (.n a87 (.n a28 a41 a73) (.n a29 a45 a39))) (.n a28 (.n a90 a92 zL2) (.n a69 a94 (.n zIG zKb .e))))
def zL4:T Bk:=(.n (.some ⟨38,zKL, .none⟩) .e .e)
def zCi:T Bk:=(.n a29 .e .e)
def zL5:T Bk:=(.n a28 zCi (.n a37 .e .e))
def zIJ:T Bk:=(.n a50 .e .e)
def zL6:T Bk:=(.n a28 (.n a28 a41 zIJ) (.n a51 a41 .e))
def zL7:T Bk:=(.n a57 (.n a40 a73 a39) zKc)
def zHg:T Bk:=(.n a69 .e .e)
def zKO:T Bk:=(.n a20 zL7 (.n a40 (.n a40 a45 zHg) (.n a54 (.n a70 .e .e) .e)))
def zL8:T Bk:=(.n a51 (.n a40 (.n a76 .e .e) (.n a79 .e .e)) (.n a38 a41 .e))
def zL9:T Bk:=(.n a23 zL8 (.n a40 (.n a40 a41 zCi) (.n a66 a41 .e)))
def zMa:T Bk:=(.n a30 (.n a28 a45 a35) (.n a87 a45 .e))
def zMb:T Bk:=(.n a3 zL9 (.n a26 zMa (.n a28 (.n a90 a45 zHg) (.n a69 a35 .e))))
def zKP:AV:=(.sl 58 0 0 0 .false)
def zKQ:AV:=(.sl 59 0 0 0 .false)
def zKR:AV:=(.sl 60 0 0 0 .false)
def zKS:AV:=(.sl 61 0 0 0 .false)
def zKT:AV:=(.sl 62 0 0 0 .false)
def zKU:List AV:=[(.sl 27 0 3 0 .true),(.sl 40 0 1 0 .true),(.sl 42 0 2 0 .true),(.sl 47 0 0 0 .false)]
def zKV:Option Bk:=(.some ⟨80,[a5,(.sl 28 0 9 0 .true),a43,a5,(.sl 29 0 0 0 .false),a43,a5,a5,(.sl 30 0 0 0 .false),(.sl 31 0 0 0 .false),a10,(.sl 32 0 0 0 .false),a8,a5,(.sl 33 0 0 0 .false),a43,a5,a5,(.sl 34 0 0 0 .false),(.sl 35 0 0 0 .false),a31,(.sl 36 0 0 0 .false),a8,a10,(.sl 37 0 0 0 .false),a43,a5,a5,(.sl 38 0 0 0 .false),(.sl 39 0 0 0 .false)],(.some 10)⟩)
def zKW:Option Bk:=(.some ⟨134,[a5,a31,(.sl 44 0 5 0 .true),a19,a4,a43,a5,a5,a5],(.some 9)⟩)
def zKX:T Bk:=(.n (.some ⟨38,zKU, .none⟩) .e .e)
def zw7:T Bk:=(.n a40 a45 .e)
def zKY:Option Bk:=(.some ⟨134,[a10,a5,(.sl 46 0 5 0 .true),a19,a4,a43,a5,a5,a5],(.some 9)⟩)
def zKZ:Option Bk:=(.some ⟨27,[a5,a5,a5,a5],(.some 2)⟩)
def zK0:Option Bk:=(.some ⟨111,[a5,a15,a11,a19,a75,a10],(.some 6)⟩)
def zK1:Option Bk:=(.some ⟨63,[a5,a5,a14,(.sl 43 0 1 0 .true),a5,a5,a5,(.sl 45 0 1 0 .true)],(.some 4)⟩)
def zMc:List AV:=[(.sl 50 0 3 0 .true),(.sl 63 0 1 0 .true),(.sl 65 0 2 0 .true),a99]
def zIZ:AV:=(.agg zMc)
def zMd:T Bk:=(.n a40 (.n (.some ⟨111,[a5,a15,a11,a19,a95,a10],(.some 6)⟩) .e .e) .e)
def zKd:T Bk:=(.n a40 zIJ .e)
def zMe:T Bk:=(.n a2 (.n a9 (.n a28 zMd a35) (.n a44 zKd a45)) (.n a28 (.n a28 (.n a40 a39 .e) a73) (.n zKV (.n zKW .e .e) a45)))
def zK2:T Bk:=(.n a28 (.n (.some ⟨63,[a10,a5,a14,(.sl 66 0 1 0 .true),a5,a5,a5,(.sl 68 0 1 0 .true)],(.some 4)⟩) .e .e) .e)
def zK3:Option Bk:=(.some ⟨156,[a5,a19,a5,a10,a5],(.some 5)⟩)
def zMf:T Bk:=(.n a40 (.n a40 (.n a28 a33 .e) a41) (.n a28 (.n zKY .e .e) a41))
def zMg:T Bk:=(.n a1 zMe (.n a20 (.n a57 (.n a40 zK2 zKX) (.n a34 a35 (.n zK3 .e .e))) zMf))
def zMh:T Bk:=(.n a40 a77 (.n zKZ .e .e))
def zMi:T Bk:=(.n a28 (.n (.some ⟨134,[a10,a5,(.sl 69 0 5 0 .true),a19,a4,a43,a5,a5,a5],(.some 9)⟩) .e .e) .e)
def zMj:T Bk:=(.n a40 (.n a40 zMi a45) (.n a30 a39 a45))
def zMk:T Bk:=(.n a40 (.n (.some ⟨134,[a5,a31,(.sl 67 0 5 0 .true),a19,a4,a43,a5,a5,a5],(.some 9)⟩) .e .e) .e)
def zMl:Option Bk:=(.some ⟨80,[a5,(.sl 51 0 9 0 .true),a43,a5,(.sl 52 0 0 0 .false),a43,a5,a5,(.sl 53 0 0 0 .false),(.sl 54 0 0 0 .false),a10,(.sl 55 0 0 0 .false),a8,a5,(.sl 56 0 0 0 .false),a43,a5,a5,(.sl 57 0 1 0 .true),zKP,a31,zKQ,a8,a10,zKR,a43,a5,a5,zKS,zKT],(.some 10)⟩)
def zMm:T Bk:=(.n a26 (.n a30 (.n a28 zMk (.n zMl .e .e)) (.n a87 (.n zK1 .e .e) a41)) (.n a28 (.n a90 zCh a41) (.n a40 a33 a41)))
def zMn:T Bk:=(.n zK0 (.n (.some ⟨38,zMc, .none⟩) .e .e) .e)
def zMo:T Bk:=(.n a3 (.n a23 (.n a51 zMh (.n a38 zMn a45)) zMj) zMm)
def zIK:T Bk:=(.n .none zMg zMo)
def zMp:T Bk:=(.n a34 (.n (.some ⟨89,[a24,a11,a5,a25,a5], .none⟩) .e .e) .e)
def zK4:AV:=(.sl 80 0 0 0 .false)
def zKe:List AV:=[(.sl 9 0 3 0 .true),a4,(.sl 22 0 1 0 .true),(.sl 25 0 0 0 .false)]
def zMq:T Bk:=(.n a20 (.n a57 a41 a35) (.n a40 a41 a55))
def zMr:T Bk:=(.n a1 (.n a2 (.n a9 a45 (.n a44 .e .e)) (.n a28 a45 a64)) zMq)
def zIL:Option Bk:=(.some ⟨38,zKe, .none⟩)
def zMs:T Bk:=(.n a23 (.n a51 a41 a39) (.n a40 a41 (.n zIL .e .e)))
def zMt:T Bk:=(.n a30 a45 (.n a87 .e .e))
def zMu:T Bk:=(.n a3 zMs (.n a26 zMt (.n a28 (.n a90 .e .e) zHg)))
def zK5:Option Bk:=(.some ⟨63,[a5,a5,a14,(.sl 52 0 1 0 .true)],(.some 4)⟩)
def zK6:Option Bk:=(.some ⟨89,[a16,a14,a11,a5,a5], .none⟩)
def zK7:Option Bk:=(.some ⟨134,[a5,a42,(.sl 53 0 5 0 .true),a19,a4,a43,a5,a5,a5],(.some 9)⟩)
def zK8:T Bk:=(.n zIL a45 .e)
def zMv:Option Bk:=(.some ⟨80,[a5,(.sl 39 0 9 0 .true),a43,a5,(.sl 40 0 0 0 .false),a43,a5,a5,a75,(.sl 42 0 0 0 .false),a10,(.sl 43 0 0 0 .false),a8,a5,(.sl 44 0 0 0 .false),a43,a5,a5,(.sl 45 0 0 0 .false),(.sl 46 0 0 0 .false),a31,(.sl 47 0 0 0 .false),a8,a10,(.sl 48 0 0 0 .false),a43,a5,a5,(.sl 49 0 0 0 .false),(.sl 50 0 0 0 .false)],(.some 10)⟩)
def zK9:List AV:=[(.sl 55 0 3 0 .true),(.sl 68 0 1 0 .true),(.sl 70 0 1 0 .true),(.sl 73 0 0 0 .false)]
def zMw:T Bk:=(.n a30 (.n (.some ⟨134,[a5,a15,(.sl 72 0 5 0 .true),a19,a4,a43,a5,a5,a5],(.some 9)⟩) .e .e) .e)
def zMx:Option Bk:=(.some ⟨80,[a5,(.sl 56 0 9 0 .true),a43,a5,(.sl 57 0 0 0 .false),a43,a5,a5,zKP,zKQ,a10,zKR,a8,a5,zKS,a43,a5,a5,zKT,(.sl 63 0 0 0 .false),a31,a95,a8,a10,a96,a43,a5,a5,a97,a98],(.some 10)⟩)
def zMy:T Bk:=(.n a9 (.n a28 zII a45) (.n a44 zMw (.n zMx .e .e)))
def zMz:T Bk:=(.n a28 (.n a54 a41 .e) (.n zK5 .e .e))
def zMA:T Bk:=(.n a20 (.n a57 (.n a40 zK8 a41) (.n a34 zCh a45)) (.n a40 (.n a40 (.n zK6 a35 .e) a39) (.n a54 a41 a45)))
def zMB:T Bk:=(.n a50 (.n (.some ⟨111,[a5,a15,a11,a19,(.sl 69 0 0 0 .false),a10],(.some 6)⟩) .e .e) .e)
def zMC:T Bk:=(.n zMv (.n (.some ⟨63,[a5,a5,a14,(.sl 71 0 1 0 .true)],(.some 4)⟩) .e .e) .e)
def zMD:T Bk:=(.n a3 (.n a23 (.n a51 (.n a40 (.n a51 a45 .e) a45) (.n a38 zIH a73)) (.n a40 (.n a40 zMB (.n zK7 .e .e)) (.n zIL a45 a45))) (.n a26 (.n a30 (.n a28 zII a41) (.n a87 zKd a41)) (.n a28 (.n a90 zMC a35) zKM)))
def zME:T Bk:=(.n a28 (.n (.some ⟨38,zK9, .none⟩) .e .e) .e)
def zLa:T Bk:=(.n a2 (.n a9 zL5 (.n a44 a41 .e)) zL6)
def zMF:T Bk:=(.n a26 zMa (.n a28 (.n a90 a45 .e) (.n a69 a35 .e)))
def zMG:T Bk:=(.n a28 (.n a29 a73 .e) (.n a37 a39 .e))
def zMH:T Bk:=(.n a44 zw7 (.n a29 (.n (.some ⟨68,[a14,a31,a5], .none⟩) .e .e) .e))
def zMI:T Bk:=(.n a28 (.n a28 zw7 (.n a50 (.n a74 .e .e) .e)) (.n a51 zKI (.n a54 a55 .e)))
def zMJ:List AV:=[(.sl 62 0 3 0 .true),(.sl 75 0 1 0 .true),(.sl 77 0 1 0 .true),zK4]
def zMK:T Bk:=(.n (.some ⟨38,zMJ, .none⟩) .e .e)
def zML:T Bk:=(.n (.some ⟨63,a71, .none⟩) .e .e)
def zMM:T Bk:=(.n a20 (.n a57 (.n a40 (.n a30 a41 .e) (.n a38 a64 .e)) (.n a34 zw3 (.n a66 zMK .e))) (.n a40 (.n a40 zw3 (.n a69 zML .e)) (.n a54 zKJ (.n a74 a45 .e))))
def zMN:T Bk:=(.n a40 (.n a76 a45 .e) (.n a79 a35 .e))
def zMO:T Bk:=(.n a38 zw7 (.n a51 a64 .e))
def zMP:T Bk:=(.n a40 (.n a40 zw7 (.n a29 a55 .e)) (.n a66 zCh (.n a50 zML .e)))
def zMQ:T Bk:=(.n a26 (.n a30 (.n a28 zw3 (.n a34 zMK .e)) (.n a87 zw3 (.n a29 (.n a74 .e .e) .e))) (.n a28 (.n a90 zw3 (.n a69 (.n (.some ⟨68,[a14,a10,a5], .none⟩) .e .e) .e)) (.n a69 zKK (.n zIG (.n (.some ⟨68,[a14,a10,a5,a14,a31,a5],(.some 3)⟩) .e .e) .e))))
def k1:Memo:=⟨14,[(.sl 3 0 2 2 .false)],(.n .none (.n a1 (.n a2 .e .e) .e) (.n a3 .e .e)),4,(.tup [a7,a8]),(.n .none a21 (.n a3 (.n a23 .e .e) (.n a26 .e .e))),8⟩
def k10:Memo:=⟨76,[a7,(.agg a27),a5,(.agg [a10,a11,a10,a5,a5])],(.n .none (.n a1 (.n a2 (.n a9 (.n a28 a36 (.n a37 a39 a41)) (.n a44 a47 (.n a29 a45 a41))) (.n a28 (.n a28 a49 (.n a50 a45 a41)) (.n a51 (.n a40 (.n a53 .e .e) a55) a56))) (.n a20 (.n a57 (.n a40 a60 (.n a38 (.n a63 .e .e) a45)) (.n a34 (.n a28 a41 a64) a67)) (.n a40 (.n a40 a68 (.n a69 a41 a45)) (.n a54 (.n a70 (.n a72 .e .e) a73) (.n a74 a41 a39))))) (.n a3 (.n a23 (.n a51 (.n a40 (.n a76 a77 a78) (.n a79 a35 a41)) (.n a38 a82 (.n a51 a41 a41))) (.n a40 a83 (.n a66 (.n a40 a35 a84) a85))) (.n a26 (.n a30 a86 (.n a87 (.n a28 a41 a88) a89)) (.n a28 (.n a90 a92 (.n a69 a45 a45)) (.n a69 a94 zLR))))),130,(.agg [(.sl 130 0 3 0 .true),(.sl 143 0 1 0 .true),(.sl 145 0 2 0 .true),(.sl 150 0 0 0 .false)]),(.n .none (.n a1 (.n a2 (.n a9 (.n a28 a36 (.n a37 (.n a38 (.n (.some ⟨111,[a5,a15,a11,a19,(.sl 144 0 0 0 .false),a10],(.some 6)⟩) .e .e) .e) a41)) (.n a44 (.n a40 zE7 a46) (.n a29 a45 a41))) (.n a28 (.n a28 (.n a40 (.n a28 a73 .e) a48) (.n a50 zIH a41)) (.n a51 (.n a40 (.n a53 a45 .e) a55) a56))) (.n a20 (.n a57 (.n a40 a60 (.n a38 (.n a63 (.n (.some ⟨63,[a5,a5,a14,(.sl 146 0 1 0 .true),a5,a5,a5,(.sl 148 0 1 0 .true)],(.some 4)⟩) .e .e) .e) a45)) (.n a34 (.n a28 zw6 a64) a67)) (.n a40 (.n a40 (.n a28 zw6 a35) (.n a69 (.n a40 a33 .e) a45)) (.n a54 (.n a70 (.n a72 a41 .e) a73) (.n a74 a41 a39))))) (.n a3 (.n a23 (.n a51 (.n a40 (.n a76 a77 a78) (.n a79 (.n a34 a35 .e) a41)) (.n a38 (.n a40 zE7 a81) (.n a51 a41 a41))) (.n a40 (.n a40 (.n a40 zE7 a33) (.n a29 (.n a40 (.n (.some ⟨134,[a10,a5,(.sl 149 0 5 0 .true),a19,a4,a43,a5,a5,a5],(.some 9)⟩) .e .e) .e) a41)) (.n a66 (.n a40 zKc a84) a85))) (.n a26 (.n a30 (.n a28 (.n a28 (.n a40 (.n (.some ⟨80,[a5,(.sl 131 0 9 0 .true),a43,a5,(.sl 132 0 0 0 .false),a43,a5,a5,(.sl 133 0 0 0 .false),(.sl 134 0 0 0 .false),a10,(.sl 135 0 0 0 .false),a8,a5,(.sl 136 0 0 0 .false),a43,a5,a5,(.sl 137 0 0 0 .false),(.sl 138 0 0 0 .false),a31,(.sl 139 0 0 0 .false),a8,a10,(.sl 140 0 0 0 .false),a43,a5,a5,(.sl 141 0 0 0 .false),(.sl 142 0 0 0 .false)],(.some 10)⟩) .e .e) .e) a39) (.n a34 (.n a30 (.n (.some ⟨134,[a5,a31,(.sl 147 0 5 0 .true),a19,a4,a43,a5,a5,a5],(.some 9)⟩) .e .e) .e) a45)) (.n a87 (.n a28 zw6 a88) a89)) (.n a28 (.n a90 (.n a28 zw6 a91) (.n a69 a77 a45)) (.n a69 (.n a34 (.n a93 a41 .e) a45) zLR))))),151⟩
def k11:Memo:=⟨32,[a7,(.agg a80),a5],(.n .none zLS (.n a3 (.n a23 (.n a51 zLT (.n a38 a82 (.n a51 a41 .e))) zLU) zLV)),105,(.agg zKL),(.n .none zLZ (.n a3 (.n a23 (.n a51 zL0 (.n a38 a82 zKN)) zL1) zL3)),126⟩
def k12:Memo:=⟨32,[a7,(.agg zKL),a10],(.n .none zLZ (.n a3 (.n a23 (.n a51 zL0 (.n a38 (.n a40 a45 zL4) zKN)) zL1) zL3)),126,(.agg [(.sl 126 0 3 0 .true),(.sl 139 0 1 0 .true),(.sl 141 0 2 0 .true),(.sl 146 0 0 0 .false)]),(.n .none (.n a1 (.n a2 (.n a9 (.n a28 (.n a29 (.n a30 a73 .e) a35) (.n a37 (.n a38 a39 .e) a45)) (.n a44 (.n a40 zE7 a46) a89)) (.n a28 (.n a28 (.n a40 zE7 a48) (.n a50 a45 a45)) (.n a51 (.n a40 (.n a53 (.n (.some ⟨111,[a5,a15,a11,a19,(.sl 140 0 0 0 .false),a10],(.some 6)⟩) .e .e) .e) a45) zLW))) (.n a20 (.n a57 (.n a40 (.n a30 zw6 a59) (.n a38 (.n a63 a33 .e) a41)) (.n a34 (.n a28 zw6 zLX) zLY)) (.n a40 (.n a40 (.n a28 zw6 a35) zKM) (.n a54 (.n a70 (.n a72 (.n (.some ⟨63,[a5,a5,a14,(.sl 142 0 1 0 .true),a5,a5,a5,(.sl 144 0 1 0 .true)],(.some 4)⟩) .e .e) .e) a41) (.n a74 a41 a35))))) (.n a3 (.n a23 (.n a51 (.n a40 (.n a76 zE7 a78) (.n a79 (.n a34 (.n (.some ⟨134,[a10,a5,(.sl 145 0 5 0 .true),a19,a4,a43,a5,a5,a5],(.some 9)⟩) .e .e) .e) a41)) (.n a38 (.n a40 zE7 zL4) zKN)) (.n a40 (.n a40 (.n a40 zE7 a33) (.n a29 a41 a41)) (.n a66 (.n a40 (.n a34 a35 .e) a41) (.n a50 a41 a33)))) (.n a26 (.n a30 (.n a28 (.n a28 zw6 a39) (.n a34 (.n a30 a35 .e) a45)) (.n a87 (.n a28 zw6 a73) (.n a29 a45 a39))) (.n a28 (.n a90 (.n a28 zw6 a91) zL2) (.n a69 (.n a34 (.n a93 (.n (.some ⟨134,[a5,a31,(.sl 143 0 5 0 .true),a19,a4,a43,a5,a5,a5],(.some 9)⟩) .e .e) .e) a45) (.n zIG zKb (.n (.some ⟨80,[a5,(.sl 127 0 9 0 .true),a43,a5,(.sl 128 0 0 0 .false),a43,a5,a5,(.sl 129 0 0 0 .false),(.sl 130 0 0 0 .false),a10,(.sl 131 0 0 0 .false),a8,a5,(.sl 132 0 0 0 .false),a43,a5,a5,(.sl 133 0 0 0 .false),(.sl 134 0 0 0 .false),a31,(.sl 135 0 0 0 .false),a8,a10,(.sl 136 0 0 0 .false),a43,a5,a5,(.sl 137 0 0 0 .false),(.sl 138 0 0 0 .false)],(.some 10)⟩) .e .e))))))),147⟩
def k13:Memo:=⟨17,[a7,(.agg a65),(.agg [a5,a5])],(.n .none (.n a1 (.n a2 (.n a9 zL5 (.n a44 a41 zCi)) zL6) zKO) zMb),56,(.tup [(.agg [(.sl 56 0 3 0 .true),(.sl 69 0 1 0 .true),(.sl 71 0 2 0 .true),a52]),(.sl 77 0 1 1 .false),(.sl 78 0 2 2 .false),a5]),(.n .none (.n a1 (.n a2 (.n a9 (.n a28 zII (.n a37 .e .e)) (.n a44 (.n a40 (.n (.some ⟨63,[a5,a5,a14,(.sl 72 0 1 0 .true),a5,a5,a5,(.sl 74 0 1 0 .true)],(.some 4)⟩) .e .e) .e) zCi)) (.n a28 (.n a28 zw6 zIJ) (.n a51 (.n a40 a33 .e) a41))) (.n a20 (.n a57 (.n a40 (.n a30 a45 .e) a39) (.n a34 zIH a73)) (.n a40 (.n a40 (.n a28 (.n (.some ⟨111,[a5,a15,a11,a19,a99,a10],(.some 6)⟩) .e .e) .e) zHg) (.n a54 (.n a70 a91 .e) a45)))) (.n a3 (.n a23 (.n a51 (.n a40 (.n a76 a41 .e) (.n a79 .e .e)) (.n a38 (.n a40 (.n (.some ⟨134,[a5,a31,(.sl 73 0 5 0 .true),a19,a4,a43,a5,a5,a5],(.some 9)⟩) .e .e) .e) (.n (.some ⟨80,[a5,(.sl 57 0 9 0 .true),a43,a5,zKP,a43,a5,a5,zKQ,zKR,a10,zKS,a8,a5,zKT,a43,a5,a5,(.sl 63 0 0 0 .false),a95,a31,a96,a8,a10,a97,a43,a5,a5,a98,(.sl 68 0 0 0 .false)],(.some 10)⟩) .e .e))) (.n a40 (.n a40 zw6 zCi) (.n a66 zCh a41))) (.n a26 (.n a30 (.n a28 zE7 a35) (.n a87 (.n a28 (.n (.some ⟨134,[a10,a5,(.sl 75 0 5 0 .true),a19,a4,a43,a5,a5,a5],(.some 9)⟩) .e .e) .e) a45)) (.n a28 (.n a90 a77 zHg) (.n a69 (.n a34 a46 .e) a45))))),79⟩
def k14:Memo:=⟨21,[a7,(.agg zKU),(.agg [a5,a5])],(.n .none (.n a1 (.n a2 (.n a9 a68 (.n a44 a41 .e)) (.n a28 zw3 (.n zKV (.n zKW .e .e) .e))) (.n a20 (.n a57 (.n a40 a45 zKX) (.n a34 a35 .e)) (.n a40 zw7 (.n a28 (.n zKY .e .e) .e)))) (.n a3 (.n a23 (.n a51 (.n a40 a45 (.n zKZ .e .e)) (.n a38 (.n zK0 .e .e) .e)) (.n a40 zw7 (.n a30 a39 .e))) (.n a26 (.n a30 zw3 (.n a87 (.n zK1 .e .e) .e)) (.n a28 (.n a90 a41 .e) (.n a40 a33 .e))))),50,(.tup [zIZ,a4,(.sl 71 0 0 1 .false),a5]),(.n .none zMg (.n a3 (.n a23 (.n a51 zMh (.n a38 (.n zK0 .e .e) a45)) zMj) zMm)),72⟩
def k15:Memo:=⟨33,[a7,zIZ,a5],zIK,73,a4,zIK,73⟩
def k16:Memo:=⟨19,[a7,zIZ],zIK,73,a8,zIK,73⟩
def k17:Memo:=⟨34,[a7,zIZ,a10],zIK,73,(.tup [(.agg [a24,a11,a5,a25,a5]),a8]),zIK,73⟩
def k18:Memo:=⟨21,[a7,zIZ,(.agg [a10,a5])],(.n .none (.n a1 zMe (.n a20 (.n a57 (.n a40 zK2 zKX) (.n a34 zMp (.n zK3 .e .e))) zMf)) zMo),74,(.tup [(.agg [(.sl 74 0 3 0 .true),(.sl 83 0 1 0 .true),(.sl 85 0 2 0 .true),a62]),(.sl 91 0 4 0 .true),(.sl 92 0 2 0 .true),a5]),(.n .none (.n a1 (.n a2 (.n a9 (.n a28 zMd zKc) (.n a44 zKd zIH)) (.n a28 (.n a28 (.n a40 a39 .e) (.n a30 (.n (.some ⟨111,[a5,a15,a11,a19,a61,a10],(.some 6)⟩) .e .e) .e)) (.n zKV (.n zKW a73 .e) (.n a28 (.n (.some ⟨65,[a5,(.lit (.int .i64 (.ofNat 15))),a10,a5,a5,a5,a5,a31,a5,a10,(.lit (.int .i64 (.ofNat 17))),a10,a5,a5,a5,a10,a5,a5,a10,a13,a10,a5,a5,a5,a10,a5,a5,a5,(.lit (.int .i64 (.ofNat 16))),a10,a5,a5,a5,a5,a31,a5],(.some 9)⟩) .e .e) .e)))) (.n a20 (.n a57 (.n a40 zK2 (.n (.some ⟨38,zKU, .none⟩) a45 .e)) (.n a34 zMp (.n zK3 (.n (.some ⟨68,[a14,a10,a5,a14,a31,a5,a5,a5,a5,a5,a10,a5,a5,a10,a5],(.some 3)⟩) .e .e) .e))) (.n a40 (.n a40 (.n a28 a33 .e) (.n a40 (.n (.some ⟨63,[a14,a5,a14,(.sl 86 0 0 0 .true),a14,a5,a5,(.sl 88 0 0 0 .true)],(.some 4)⟩) .e .e) .e)) (.n a28 (.n zKY a41 .e) a41)))) (.n a3 (.n a23 (.n a51 (.n a40 a77 (.n zKZ a45 .e)) (.n a38 zMn (.n a28 (.n (.some ⟨134,[a10,a10,(.sl 89 0 5 0 .true),a19,a4,a8,a5,a5,a5],(.some 9)⟩) .e .e) .e))) (.n a40 (.n a40 zMi a77) (.n a30 (.n a38 a45 .e) (.n a28 (.n (.some ⟨3,[a5,a10],(.some 1)⟩) .e .e) .e)))) (.n a26 (.n a30 (.n a28 zMk (.n zMl a45 .e)) (.n a87 (.n zK1 (.n (.some ⟨80,[a5,(.sl 75 0 9 0 .true),a43,a5,a52,a43,a5,a5,(.sl 77 0 0 0 .false),(.sl 78 0 0 0 .false),a10,(.sl 79 0 0 0 .false),a8,a5,zK4,a43,a10,a10,a4,a4,a31,(.sl 81 0 0 0 .false),a8,a10,(.sl 82 0 0 0 .false),a43,a5,a5,a4,a4],(.some 10)⟩) .e .e) .e) zCh)) (.n a28 (.n a90 zCh (.n a40 (.n (.some ⟨134,[a5,(.lit (.int .i64 (.ofNat 10))),(.sl 87 0 5 0 .true),a19,a4,a8,a5,a5,a5],(.some 9)⟩) .e .e) .e)) (.n a40 (.n a32 a41 .e) a41))))),93⟩
def k2:Memo:=⟨15,[a7],(.n .none a21 (.n a3 (.n a23 a64 .e) (.n a26 .e .e))),9,(.agg zKe),(.n .none (.n a1 (.n a2 (.n a9 a45 (.n a44 .e .e)) zE7) (.n a20 (.n a57 a41 a35) zw6)) (.n a3 (.n a23 (.n a51 a41 a39) zw6) (.n a26 (.n a30 a45 .e) (.n a28 (.n a90 .e .e) .e)))),26⟩
def k3:Memo:=⟨22,[a7,(.agg zKe)],(.n .none zMr (.n a3 zMs (.n a26 zMt (.n a28 (.n a90 .e .e) .e)))),30,(.sl 30 0 1 0 .true),(.n .none zMr zMu),31⟩
def k4:Memo:=⟨42,[a7,(.agg [(.sl 38 0 3 0 .true),a4,(.sl 51 0 1 0 .true),(.sl 54 0 0 0 .false)]),a5,(.agg [a16,a14,a11,a5,a5]),a5],(.n .none (.n a1 (.n a2 (.n a9 (.n a28 zCi a45) (.n a44 a73 .e)) (.n a28 (.n a28 a55 (.n zK5 .e .e)) (.n a51 a45 .e))) (.n a20 (.n a57 (.n a40 (.n zIL .e .e) a41) (.n a34 a41 .e)) (.n a40 (.n a40 (.n zK6 .e .e) a39) (.n a54 a41 .e)))) (.n a3 (.n a23 (.n a51 (.n a40 a64 a45) (.n a38 a45 .e)) (.n a40 (.n a40 zIJ (.n zK7 .e .e)) zK8)) (.n a26 (.n a30 (.n a28 zCi a41) (.n a87 a41 .e)) (.n a28 (.n a90 (.n zMv .e .e) a35) (.n a69 a41 .e))))),55,(.tup [(.agg zK9),a4,(.sl 74 0 1 1 .false)]),(.n .none (.n a1 (.n a2 zMy (.n a28 zMz (.n a51 a45 a41))) zMA) zMD),75⟩
def k5:Memo:=⟨32,[a7,(.agg zK9),a5],(.n .none (.n a1 (.n a2 zMy (.n a28 zMz (.n a51 zME a41))) zMA) zMD),76,(.agg [(.sl 76 0 3 0 .true),(.sl 89 0 1 0 .true),(.sl 91 0 1 0 .true),(.sl 94 0 0 0 .false)]),(.n .none (.n a1 (.n a2 (.n a9 (.n a28 zII zw3) (.n a44 zMw (.n zMx a41 .e))) (.n a28 (.n a28 (.n a54 a41 .e) (.n zK5 a41 .e)) (.n a51 zME (.n a40 (.n (.some ⟨63,[a5,a5,a14,(.sl 92 0 1 0 .true)],(.some 4)⟩) .e .e) .e)))) (.n a20 (.n a57 (.n a40 zK8 zw7) (.n a34 zCh (.n a28 (.n (.some ⟨111,[a5,a15,a11,a19,a62,a10],(.some 6)⟩) .e .e) .e))) (.n a40 (.n a40 (.n zK6 a35 .e) (.n a38 a45 .e)) (.n a54 (.n a40 a73 .e) zIH)))) (.n a3 (.n a23 (.n a51 (.n a40 (.n a51 a45 .e) zw3) (.n a38 zIH (.n a30 a41 .e))) (.n a40 (.n a40 zMB (.n zK7 a41 .e)) (.n zIL (.n a28 (.n (.some ⟨80,[a5,(.sl 77 0 9 0 .true),a43,a5,(.sl 78 0 0 0 .false),a43,a5,a5,(.sl 79 0 0 0 .false),zK4,a10,(.sl 81 0 0 0 .false),a8,a5,(.sl 82 0 0 0 .false),a43,a5,a5,(.sl 83 0 0 0 .false),a61,a31,(.sl 85 0 0 0 .false),a8,a10,(.sl 86 0 0 0 .false),a43,a5,a5,(.sl 87 0 0 0 .false),(.sl 88 0 0 0 .false)],(.some 10)⟩) .e .e) .e) (.n a28 (.n (.some ⟨134,[a5,a15,(.sl 93 0 5 0 .true),a19,a4,a43,a5,a5,a5],(.some 9)⟩) .e .e) .e)))) (.n a26 (.n a30 (.n a28 zII zw7) (.n a87 zKd zCh)) (.n a28 (.n a90 zMC zKc) (.n a69 zw7 zCh))))),95⟩
def k6:Memo:=⟨17,[a7,(.agg zKe),(.agg [a5,a5])],(.n .none (.n a1 (.n a2 (.n a9 (.n a28 zCi .e) (.n a44 .e .e)) (.n a28 a45 a64)) zMq) zMu),32,(.tup [(.agg a65),a4,(.sl 51 0 1 1 .false),a5]),(.n .none (.n a1 zLa (.n a20 zL7 (.n a40 zw7 (.n a54 (.n a70 .e .e) .e)))) (.n a3 (.n a23 zL8 (.n a40 zw6 (.n zIL a41 .e))) zMF)),52⟩
def k7:Memo:=⟨22,[a7,(.agg a65)],(.n .none (.n a1 zLa zKO) (.n a3 zL9 zMF)),54,(.sl 54 0 1 0 .true),(.n .none (.n a1 zLa zKO) zMb),55⟩
def k8:Memo:=⟨28,[a7,(.agg [a5,a5,a5,a4]),a10,(.sl 94 0 2 0 .true),a19],(.n .none (.n a1 (.n a2 (.n a9 zMG zMH) zMI) zMM) (.n a3 (.n a23 (.n a51 zMN zMO) zMP) zMQ)),95,(.tup [(.agg [a5,a5,a5,(.sl 95 0 1 0 .true)]),a5]),(.n .none (.n a1 (.n a2 (.n a9 (.n a28 (.n a29 a73 (.n (.some ⟨134,[a10,a5,(.sl 96 0 5 0 .true),a19,a4,a43,a5,a5,a5],(.some 9)⟩) .e .e)) (.n a37 a39 .e)) zMH) zMI) zMM) (.n a3 (.n a23 (.n a51 (.n a40 (.n a76 a45 a33) (.n a79 a35 .e)) zMO) zMP) zMQ)),97⟩
def k9:Memo:=⟨42,[a7,(.agg zMJ),a5,(.agg [a17,a5,a10,a5,a5]),a5],(.n .none (.n a1 (.n a2 (.n a9 zMG (.n a44 zw7 zCi)) (.n a28 (.n a28 zw7 zIJ) (.n a51 zKI a55))) (.n a20 (.n a57 (.n a40 (.n a30 a41 .e) a39) (.n a34 zw3 (.n a66 .e .e))) (.n a40 (.n a40 zw3 zHg) (.n a54 zKJ (.n a74 .e .e))))) (.n a3 (.n a23 (.n a51 zMN (.n a38 zw7 a64)) (.n a40 (.n a40 zw7 zCi) (.n a66 zCh zIJ))) (.n a26 (.n a30 (.n a28 zw3 a35) (.n a87 zw3 zCi)) (.n a28 (.n a90 zw3 zHg) (.n a69 zKK (.n zIG .e .e)))))),81,(.tup [(.agg a80),(.sl 102 0 1 1 .false),(.sl 103 0 2 2 .false)]),(.n .none zLS (.n a3 (.n a23 (.n a51 zLT (.n a38 zw7 (.n a51 a41 .e))) zLU) zLV)),104⟩
set_option maxRecDepth 1000000
set_option maxHeartbeats 0
theorem zla {tb:T Ctr} {f:Nat} {c:Ctr} (h:∀f c,tb.get f=some c→@zi Tryz.prog zp f c) (hc:@zi Tryz.prog zp f c):∀f' c',(tb.set f c).get f'=some c'→@zi Tryz.prog zp f' c':=fun f' c' e=>by
 rw [T.get_put] at e;split at e
 ·rename_i e';subst e';obtain rfl:=zM8 e;exact hc
 ·exact h f' c' e
theorem k0P:∀f c,(T.e:T Ctr).get f=some c→@zi Tryz.prog zp f c:=fun f c e=>by rw [T.get_e] at e;cases e
theorem zDt:Tryz.prog.follows .mixedOrders=true:=by kernel_rfl
theorem ziq {t:T Ctr} (ht:∀f c,t.get f=some c→@zi Tryz.prog zp f c) {m:Memo} (hr:zhZ t m=true) {c:Ctr} (h:@zi Tryz.prog zp m.f c):@zi Tryz.prog zp m.f (zb2 m c):=
 @zGd Tryz.prog zp zDt _ _ _ (@zoq Tryz.prog zp zDt t ht _ 100 50) m hr c h
noncomputable def u1:T Ctr:=(T.e:T Ctr)
theorem zLH:∀f c,u1.get f=some c→@zi Tryz.prog zp f c:=k0P
theorem zHQ:zhZ u1 k1=true:=by kernel_rfl
theorem zLk {c:Ctr} (h:@zi Tryz.prog zp 14 c):@zi Tryz.prog zp 14 (zb2 k1 c):=ziq zLH zHQ h
noncomputable def u2:T Ctr:=(T.e:T Ctr)
theorem zLI:∀f c,u2.get f=some c→@zi Tryz.prog zp f c:=k0P
theorem zHR:zhZ u2 k2=true:=by kernel_rfl
theorem zLl {c:Ctr} (h:@zi Tryz.prog zp 15 c):@zi Tryz.prog zp 15 (zb2 k2 c):=ziq zLI zHR h
noncomputable def u3:T Ctr:=(T.e:T Ctr)
theorem zLJ:∀f c,u3.get f=some c→@zi Tryz.prog zp f c:=k0P
theorem zHS:zhZ u3 k3=true:=by kernel_rfl
theorem zLm {c:Ctr} (h:@zi Tryz.prog zp 22 c):@zi Tryz.prog zp 22 (zb2 k3 c):=ziq zLJ zHS h
noncomputable def u4:T Ctr:=(T.e:T Ctr)
theorem zLK:∀f c,u4.get f=some c→@zi Tryz.prog zp f c:=k0P
theorem zHT:zhZ u4 k4=true:=by kernel_rfl
theorem zLn {c:Ctr} (h:@zi Tryz.prog zp 42 c):@zi Tryz.prog zp 42 (zb2 k4 c):=ziq zLK zHT h
noncomputable def u5:T Ctr:=(T.e:T Ctr)
theorem zLL:∀f c,u5.get f=some c→@zi Tryz.prog zp f c:=k0P
theorem zHU:zhZ u5 k5=true:=by kernel_rfl
theorem zLo {c:Ctr} (h:@zi Tryz.prog zp 32 c):@zi Tryz.prog zp 32 (zb2 k5 c):=ziq zLL zHU h
noncomputable def u6:T Ctr:=(((T.e:T Ctr).set 42 (zb2 k4 noC)).set 32 (zb2 k5 noC))
theorem zLM:∀f c,u6.get f=some c→@zi Tryz.prog zp f c:=(zla (zla k0P (zLn (@zgm Tryz.prog zp 42))) (zLo (@zgm Tryz.prog zp 32)))
theorem zHV:zhZ u6 k6=true:=by kernel_rfl
theorem zLp {c:Ctr} (h:@zi Tryz.prog zp 17 c):@zi Tryz.prog zp 17 (zb2 k6 c):=ziq zLM zHV h
noncomputable def u7:T Ctr:=(T.e:T Ctr)
theorem zLN:∀f c,u7.get f=some c→@zi Tryz.prog zp f c:=k0P
theorem zHW:zhZ u7 k7=true:=by kernel_rfl
theorem zLq {c:Ctr} (h:@zi Tryz.prog zp 22 c):@zi Tryz.prog zp 22 (zb2 k7 c):=ziq zLN zHW h
noncomputable def u8:T Ctr:=(T.e:T Ctr)
theorem zLO:∀f c,u8.get f=some c→@zi Tryz.prog zp f c:=k0P
theorem zHX:zhZ u8 k8=true:=by kernel_rfl
theorem zLr {c:Ctr} (h:@zi Tryz.prog zp 28 c):@zi Tryz.prog zp 28 (zb2 k8 c):=ziq zLO zHX h
noncomputable def u9:T Ctr:=((T.e:T Ctr).set 28 (zb2 k8 noC))
theorem zLP:∀f c,u9.get f=some c→@zi Tryz.prog zp f c:=(zla k0P (zLr (@zgm Tryz.prog zp 28)))
theorem zHY:zhZ u9 k9=true:=by kernel_rfl
theorem zLs {c:Ctr} (h:@zi Tryz.prog zp 42 c):@zi Tryz.prog zp 42 (zb2 k9 c):=ziq zLP zHY h
noncomputable def u10:T Ctr:=(T.e:T Ctr)
theorem zJX:∀f c,u10.get f=some c→@zi Tryz.prog zp f c:=k0P
theorem zFO:zhZ u10 k10=true:=by kernel_rfl
theorem zJk {c:Ctr} (h:@zi Tryz.prog zp 76 c):@zi Tryz.prog zp 76 (zb2 k10 c):=ziq zJX zFO h
noncomputable def u11:T Ctr:=((T.e:T Ctr).set 76 (zb2 k10 noC))
theorem zJY:∀f c,u11.get f=some c→@zi Tryz.prog zp f c:=(zla k0P (zJk (@zgm Tryz.prog zp 76)))
theorem zFP:zhZ u11 k11=true:=by kernel_rfl
theorem zJl {c:Ctr} (h:@zi Tryz.prog zp 32 c):@zi Tryz.prog zp 32 (zb2 k11 c):=ziq zJY zFP h
noncomputable def u12:T Ctr:=(T.e:T Ctr)
theorem zJZ:∀f c,u12.get f=some c→@zi Tryz.prog zp f c:=k0P
theorem zFQ:zhZ u12 k12=true:=by kernel_rfl
theorem zJm {c:Ctr} (h:@zi Tryz.prog zp 32 c):@zi Tryz.prog zp 32 (zb2 k12 c):=ziq zJZ zFQ h
noncomputable def u13:T Ctr:=(((T.e:T Ctr).set 42 (zb2 k9 noC)).set 32 (zb2 k11 (zb2 k12 noC)))
theorem zJ0:∀f c,u13.get f=some c→@zi Tryz.prog zp f c:=(zla (zla k0P (zLs (@zgm Tryz.prog zp 42))) (zJl (zJm (@zgm Tryz.prog zp 32))))
theorem zFR:zhZ u13 k13=true:=by kernel_rfl
theorem zJn {c:Ctr} (h:@zi Tryz.prog zp 17 c):@zi Tryz.prog zp 17 (zb2 k13 c):=ziq zJ0 zFR h
noncomputable def u14:T Ctr:=(T.e:T Ctr)
theorem zJ1:∀f c,u14.get f=some c→@zi Tryz.prog zp f c:=k0P
theorem zFS:zhZ u14 k14=true:=by kernel_rfl
theorem zJo {c:Ctr} (h:@zi Tryz.prog zp 21 c):@zi Tryz.prog zp 21 (zb2 k14 c):=ziq zJ1 zFS h
noncomputable def u15:T Ctr:=(T.e:T Ctr)
theorem zJ2:∀f c,u15.get f=some c→@zi Tryz.prog zp f c:=k0P
theorem zFT:zhZ u15 k15=true:=by kernel_rfl
theorem zJp {c:Ctr} (h:@zi Tryz.prog zp 33 c):@zi Tryz.prog zp 33 (zb2 k15 c):=ziq zJ2 zFT h
noncomputable def u16:T Ctr:=(T.e:T Ctr)
theorem zJ3:∀f c,u16.get f=some c→@zi Tryz.prog zp f c:=k0P
theorem zFU:zhZ u16 k16=true:=by kernel_rfl
theorem zJq {c:Ctr} (h:@zi Tryz.prog zp 19 c):@zi Tryz.prog zp 19 (zb2 k16 c):=ziq zJ3 zFU h
noncomputable def u17:T Ctr:=(T.e:T Ctr)
theorem zJ4:∀f c,u17.get f=some c→@zi Tryz.prog zp f c:=k0P
theorem zFV:zhZ u17 k17=true:=by kernel_rfl
theorem zJr {c:Ctr} (h:@zi Tryz.prog zp 34 c):@zi Tryz.prog zp 34 (zb2 k17 c):=ziq zJ4 zFV h
noncomputable def u18:T Ctr:=(T.e:T Ctr)
theorem zJ5:∀f c,u18.get f=some c→@zi Tryz.prog zp f c:=k0P
theorem zFW:zhZ u18 k18=true:=by kernel_rfl
theorem zJs {c:Ctr} (h:@zi Tryz.prog zp 21 c):@zi Tryz.prog zp 21 (zb2 k18 c):=ziq zJ5 zFW h
def yes (t:VT (AV×St)):Bool:=match zBQ t with
 |some (.lit (.bool true),_)=>true
 |_=>false
theorem zIE {t:VT (AV×St)} (h:yes t=true):∃st,t.out=some (.lit (.bool true),st):=by
 unfold yes at h;split at h
 ·rename_i e;exact ⟨_,zod e⟩
 ·cases h
noncomputable def uA:T Ctr:=(((((((((T.e:T Ctr).set 14 (zb2 k1 noC)).set 15 (zb2 k2 noC)).set 22 (zb2 k3 (zb2 k7 noC))).set 17 (zb2 k6 (zb2 k13 noC))).set 21 (zb2 k14 (zb2 k18 noC))).set 33 (zb2 k15 noC)).set 19 (zb2 k16 noC)).set 34 (zb2 k17 noC))
theorem zLQ:∀f c,uA.get f=some c→@zi Tryz.prog zp f c:=(zla (zla (zla (zla (zla (zla (zla (zla k0P (zLk (@zgm Tryz.prog zp 14))) (zLl (@zgm Tryz.prog zp 15))) (zLm (zLq (@zgm Tryz.prog zp 22)))) (zLp (zJn (@zgm Tryz.prog zp 17)))) (zJo (zJs (@zgm Tryz.prog zp 21)))) (zJp (@zgm Tryz.prog zp 33))) (zJq (@zgm Tryz.prog zp 19))) (zJr (@zgm Tryz.prog zp 34)))
theorem zAq:yes (zI5 uA 12 [] ⟨.e,1,wr0 1⟩)=true:=by kernel_rfl
theorem zAr:zAe Tryz.prog 12 [] [.own .bool] (fun _=>True) (fun _=>(true,())):=by
 obtain ⟨st,hout⟩:=zIE zAq;obtain ⟨_,hb,h⟩:=@zoq Tryz.prog zp zDt uA zLQ (fun i=>mem i zsJ) 100 50 _ _ _ _ _ hout;refine ⟨hb,fun w S x vs hS hv _=>?_⟩;have hv:vs=[]:=hv;subst hv;refine (h (K0 w S) w w (zLC w) [] ⟨S,_,zEE hS 1⟩ (by simp only [dens])).mono ?_
 rintro e w' ⟨u,ρ',rfl,_,⟨S2,F2,hs⟩,hd⟩
 simp only [den] at hd;refine ⟨u,S,fun _=>False,rfl,hs.kp.below,fun y hy=>hy.elim,fun y hy=>⟨.inl hy,zNd (hS y hy) hs.kp.size⟩,?_⟩;refine ⟨[u],⟨rfl,fun _ _=>False,fun _ _ h=>h.elim,fun _ _ _ h _=>h.elim,fun j lf hj=>?_⟩,rfl⟩;cases j with
 |zero=>
  simp only [RT.leaves,List.getElem?_cons_zero,zNn] at hj;subst hj;exact ⟨u,rfl,by rw [hd];exact LfO.bool _ _ _⟩
 |succ j=>simp [RT.leaves] at hj
noncomputable def zI3:Ctr:=zcB [] [.own .bool] (fun _=>true) (fun _=>(true,()))
theorem zFf:zi Tryz.prog 12 zI3:=zCD zAr fun _ _=>trivial
noncomputable def zts (a:Prg) (b:List Val) (c:List Val) (i0:Int×Int×Int×Int×(List Frm)×Unit):Snap:=⟨[(1, .lw 8 8 [] 3 b.length),(2, .lw 10 10 [] 3 c.length),(3, .ptr 11 0),(7, .ptr 14 0),(9,vI (i0.1))],[(1,bV),(2,bT .none (.st .fnc) a.funcs 1),(3,bV),(4,bT .none (.st .glb) a.globals 3),(5,bV),(6,bT .none (RT.list (RT.int IntKind.i64)) a.layouts 5),(7,bV),(8,bT .ro (.st .val) b 7),(9,bV),(10,bT .ro (.st .val) c 9),(11,bC 32 [.lw 2 2 [] 4 a.funcs.length, .lw 4 4 [] 2 a.globals.length, .lw 6 6 [] 1 a.layouts.length,vI a.main]),(14,bC 63 [vI (i0.2.1),vI (i0.2.2.1),vI (i0.2.2.2.1), .lw 16 16 [] 9 (List.length (i0.2.2.2.2.1))]),(15,bV),(16,bT .all (.st .frm) (i0.2.2.2.2.1) 15)],17⟩
noncomputable def zoX (a:Prg) (b:List Val) (c:List Val) (u9:Int×Int×Int×(List Frm)×Unit):Snap:=⟨[(2, .lw 10 10 [] 3 c.length),(3, .ptr 11 0),(7, .ptr 14 0)],[(1,bV),(2,bT .none (.st .fnc) a.funcs 1),(3,bV),(4,bT .none (.st .glb) a.globals 3),(5,bV),(6,bT .none (RT.list (RT.int IntKind.i64)) a.layouts 5),(9,bV),(10,bT .ro (.st .val) c 9),(11,bC 32 [.lw 2 2 [] 4 a.funcs.length, .lw 4 4 [] 2 a.globals.length, .lw 6 6 [] 1 a.layouts.length,vI a.main]),(14,bC 63 [vI (u9.1),vI (u9.2.1),vI (u9.2.2.1), .lw 18 18 [] 9 (List.length (u9.2.2.2.1))]),(17,bV),(18,bT .all (.st .frm) (u9.2.2.2.1) 17)],19⟩
noncomputable def zR (a:Prg) (b:List Val) (c:List Val) (i0:Int×Int×Int×Int×(List Frm)×Unit):(Int×Int×Int×Int×(List Frm)×Unit)⊕(Int×Int×Int×(List Frm)×Unit):=let x1:=i0.fst;
let x2:=i0.snd.fst;
let x3:=i0.snd.snd.fst;
let x4:=i0.snd.snd.snd.fst;
let x5:=i0.snd.snd.snd.snd.fst;
let x6:=(zhS (Gor.mk x2 x3 x4 x5) x1 (List.getD b (Int.toNat x1) zjY)).fst;
bif decide (x1<(b.length:Int)) then Sum.inl (IntKind.i64.wrap (x1+(1:Int)),x6.state,x6.fault,x6.allocs,x6.frames,()) else Sum.inr (x2,x3,x4,x5,())
noncomputable def zdw (a:Prg) (b:List Val) (c:List Val) (i0:Int×Int×Int×Int×(List Frm)×Unit):Bool:=let x1:=i0.fst;
bif decide (x1<(b.length:Int)) then decide ((0:Int)≤x1∧x1<(b.length:Int))&&zlB (Gor.mk i0.snd.fst i0.snd.snd.fst i0.snd.snd.snd.fst i0.snd.snd.snd.snd.fst) x1 (List.getD b (Int.toNat x1) zjY) else true
noncomputable def ziC (a:Prg) (b:List Val) (c:List Val):Bool×Unit:=let x1:=(zbk a (Gor.mk (0:Int) (0:Int) (0:Int) []) a.main [] (-1:Int)).fst;
let x2:=Mac.mk [Ob.mk (0:Int) c false (0:Int) [] false (0:Int) (0:Int) [] []] [] [Gor.mk (zd (zR a b c) ((0:Int),(0:Int),(0:Int),[],()) X_N ((0:Int),x1.state,x1.fault,x1.allocs,x1.frames,())).fst (zd (zR a b c) ((0:Int),(0:Int),(0:Int),[],()) X_N ((0:Int),x1.state,x1.fault,x1.allocs,x1.frames,())).snd.fst (zd (zR a b c) ((0:Int),(0:Int),(0:Int),[],()) X_N ((0:Int),x1.state,x1.fault,x1.allocs,x1.frames,())).snd.snd.fst (zd (zR a b c) ((0:Int),(0:Int),(0:Int),[],()) X_N ((0:Int),x1.state,x1.fault,x1.allocs,x1.frames,())).snd.snd.snd.fst] [];
let x3:=(zj x2).fst;
bif !!(zU a).fst then bif !!(zq b).fst then bif !!(zq c).fst then bif (c.length:Int) != (a.globals.length:Int) then (true,()) else bif (zdF (zaA a x3 (0:Int)).fst (zb4 a x2 (0:Int)).fst).fst then ((zdF x3 x2).fst,()) else (false,()) else (true,()) else (true,()) else (true,())
noncomputable def ziE (a:Prg) (b:List Val) (c:List Val):Bool:=let x1:=c.length*(24:Nat);
let x2:=(zbk a (Gor.mk (0:Int) (0:Int) (0:Int) []) a.main [] (-1:Int)).fst;
let x3:=Mac.mk [Ob.mk (0:Int) c false (0:Int) [] false (0:Int) (0:Int) [] []] [] [Gor.mk (zd (zR a b c) ((0:Int),(0:Int),(0:Int),[],()) X_N ((0:Int),x2.state,x2.fault,x2.allocs,x2.frames,())).fst (zd (zR a b c) ((0:Int),(0:Int),(0:Int),[],()) X_N ((0:Int),x2.state,x2.fault,x2.allocs,x2.frames,())).snd.fst (zd (zR a b c) ((0:Int),(0:Int),(0:Int),[],()) X_N ((0:Int),x2.state,x2.fault,x2.allocs,x2.frames,())).snd.snd.fst (zd (zR a b c) ((0:Int),(0:Int),(0:Int),[],()) X_N ((0:Int),x2.state,x2.fault,x2.allocs,x2.frames,())).snd.snd.snd.fst] [];
let x4:=(zj x3).fst;
let x5:=(zb4 a x3 (0:Int)).fst;
let x6:=(zaA a x4 (0:Int)).fst;
zaJ a&&bif !!(zU a).fst then zJ b&&bif !!(zq b).fst then zJ c&&bif !!(zq c).fst then bif (c.length:Int) != (a.globals.length:Int) then true else zff a (Gor.mk (0:Int) (0:Int) (0:Int) []) a.main [] (-1:Int)&&(X_wok (zR a b c) (zdw a b c) X_N ((0:Int),x2.state,x2.fault,x2.allocs,x2.frames,())&&(decide (x1≤(140737488355328:Nat))&&(zdA x3&&(zcx a x4 (0:Int)&&(zd9 a x3 (0:Int)&&(zfV x6 x5&&bif (zdF x6 x5).fst then zfV x4 x3 else true)))))) else true else true else true
noncomputable def zgk:=hide ziC
noncomputable def ziD:=hide ziE
theorem zld:zgk=ziC:=zb _
theorem zlc:ziD=ziE:=zb _
noncomputable def zvm (a:Prg) (b:List Val) (c:List Val):Nat→ze5:=fun q=>match q with|0=> .mk [⟨9,none,(.int .i64)⟩,⟨7,some 0,(.int .i64)⟩,⟨7,some 1,(.int .i64)⟩,⟨7,some 2,(.int .i64)⟩,⟨7,some 3,(.list (.st .frm))⟩] (zts a b c) [⟨.exit 0,[⟨7,some 0,(.int .i64)⟩,⟨7,some 1,(.int .i64)⟩,⟨7,some 2,(.int .i64)⟩,⟨7,some 3,(.list (.st .frm))⟩],zoX a b c⟩] (zR a b c) (zdw a b c) (H 0x40000) (fun (_:Int×Int×Int×Int×(List Frm)×Unit)=>fun _=> .no)|_=> .no
noncomputable def zvn:TT:=((((((((T0.a zFf).a ziU).a zfN).a zsa).a ztV).a zyf).a znR).a zdV).a zgb
theorem zoY:zAe Tryz.prog 10 [.v true (.st .prg), .v false (.list (.st .val)), .v false (.list (.st .val))] [.own (.bool)] (fun x=>uu3 ziD x=true) (uu3 zgk):=zJT Tryz.f10 zvn (congrArg uu3 zlc) (congrArg uu3 zld) 11 81 (uu3 zvm) 0x41041082082082042082042081041082082082042081041082082082082040041000000000001002041041040081001002040040081001041 (fun zz=>zC [(0,(zaP 0 (bd Tryz.f10)))] (by kernel_rfl) ⟨fun _=>⟨by kernel_rfl,zm (by kernel_rfl)⟩,trivial⟩)
open Go Go.Proofs.YtiepllpgifnloaaGreat.Vx
theorem MOk.mono {N M:Nat} {p:Prg} {m:Mac} (h:MOk N p m) (hl:N≤M):MOk M p m:=⟨z3 h.sz hl,h.so,h.ids,h.als,h.n8,h.pcs⟩
theorem MOk.fail {N:Nat} {p:Prg} {m:Mac} {k:Nat} {f:Int} (h:MOk N p m) (hk:k<m.goroutines.length):MOk N p (zds m k f):=
 ⟨zjS h.sz (zcD h.sz hk),h.so,zzA h.ids hk (Int.le_refl _),zy2 h.als hk (Int.le_refl _),by show (zai m k _).goroutines.length≤8;rw [zas];exact h.n8,ztj h.pcs zas (fun _ e=>zko e) (zk5 (h.pcs k hk) hk)⟩
theorem zDk {m:Mac} {k:Nat} {f:Int}:(zds m k f).goroutines.length=m.goroutines.length:=zas
theorem zwD {P:Nat} {p:Prg} {k:Nat} (hp:POk P p) (h64:64≤P):∀(r:Nat) {N:Nat} {m:Mac},P≤N→N+r<BIG→MOk N p m→k<m.goroutines.length→MOk (N+r) p (zaR p k r m)∧(zaR p k r m).goroutines.length=m.goroutines.length
 |0,N,m,hPN,hN,h,hk=>by
  unfold zaR;cases hc:zuw p m k with
  |none=>exact ⟨h,rfl⟩
  |some i=>
   show MOk (N+0) p (bif zl6 i.op then m else zds m k 8)∧(bif zl6 i.op then m else zds m k 8).goroutines.length=_
   cases zl6 i.op with
   |true=>exact ⟨h,rfl⟩
   |false=>exact ⟨h.fail hk,zDk⟩
 |r+1,N,m,hPN,hN,h,hk=>by
  rw [zaR];cases hc:zuw p m k with
  |none=>exact ⟨h.mono (Nat.le_add_right _ _),rfl⟩
  |some i=>
   show MOk (N+(r+1)) p (bif zl6 i.op then m else _)∧(bif zl6 i.op then m else _).goroutines.length=_
   cases hv:zl6 i.op with
   |true=>exact ⟨h.mono (Nat.le_add_right _ _),rfl⟩
   |false=>
    have hM:=MOk.loc hp hPN h64 (by omega) h hk hc hv
    have hl:=zo4 hp hPN h64 h hk hc hv;have ih:=zwD hp h64 r (by omega) (by omega) hM (by rw [hl];exact hk)
    rw [show N+(r+1)=N+1+r by omega]
    exact ⟨ih.1,ih.2.trans hl⟩
theorem zsz (v:Val):zae v=true:=by rw [zbQ];rfl
theorem zj4 {a:List Val} (h:a.length≤LEN):zJ a=true:=by
 have hp:=zni (n:=a.length) (step:=zx a) (ok:=zH a) (d:=(false,(),false,())) (C:=fun i=>(zN (a.getD i zjY)).1) h
  (fun i hi=>by
   unfold zx zH;simp only [Int.toNat_natCast,zcI hi,zaj hi,cond_true,zsz,Bool.and_self];exact ⟨by trivial,by cases (zN (a.getD i zjY)).1<;>rfl⟩)
  (by
   unfold zx zH;simp only [zcV,cond_false];exact ⟨by trivial,by trivial⟩)
 rw [zbG];exact hp.1
def zBT (g:Gor):Int→List Val→Gor
 |_,[]=>g
 |i,v::l=>zBT (zir g i v) (i+1) l
def zM0 (g:Gor):Int×Int×Int×(List Frm)×Unit:=(g.state,g.fault,g.allocs,g.frames,())
def zi7 (p:Prg) (g:Gor):Prop:=zaW 1000 g∧0<g.frames.length∧gpc p g∧g.allocs=0
theorem zp8 {p:Prg} {g:Gor} {i:Int} {v:Val} (h:zi7 p g):zi7 p (zir g i v):=by
 obtain ⟨h1,h2,h3,h4⟩:=h;refine ⟨zf7 h1 (zyR (zim h1 h2)),by unfold zir;rw [zco];exact h2,zmn h3 ?_,h4⟩
 have:=zoR (p:=p) h3 (n:=g.frames.length - 1) (by omega)
 have e:(zz2 (topK g) i v).fn=(topK g).fn∧(zz2 (topK g) i v).pc=(topK g).pc:=⟨by unfold zz2;cases inR (topK g).regs i<;>rfl,zyE _ _ _⟩
 rw [e.1,e.2];exact this
theorem znr {p:Prg}:∀{l:List Val} {g:Gor} {i:Int},zi7 p g→zi7 p (zBT g i l)
 |[],_,_,h=>h
 |_::l,_,_,h=>znr (l:=l) (zp8 h)
theorem zEw {p:Prg} {b c:List Val} {g:Gor} (hb:b.length≤LEN) (h:zi7 p g):
  X_wok (zR p b c) (zdw p b c) X_N ((0:Int),g.state,g.fault,g.allocs,g.frames,())=true∧zd (zR p b c) ((0:Int),(0:Int),(0:Int),[],()) X_N ((0:Int),g.state,g.fault,g.allocs,g.frames,())=zM0 (zBT g 0 b):=by
 have hB:=zc4;refine zeS (step:=zR p b c) (ok:=zdw p b c) (d:=((0:Int),(0:Int),(0:Int),[],())) (fun x=>∃(j:Nat) (g':Gor),x=((j:Int),g'.state,g'.fault,g'.allocs,g'.frames,())∧j≤b.length∧zi7 p g') (fun x=>b.length - x.1.toNat)
  (fun x=>zM0 (zBT ⟨x.2.1,x.2.2.1,x.2.2.2.1,x.2.2.2.2.1⟩ x.1 (b.drop x.1.toNat))) (fun x hx=>?_) ⟨0,g,rfl,zNk _,h⟩ (by
   have:b.length≤1152921504606846976:=hb;show b.length - 0<X_N;unfold X_N;omega)
 have hb':b.length≤1152921504606846976:=hb;obtain ⟨j,g',rfl,hj,hI⟩:=hx;unfold zR zdw;simp only [Int.toNat_natCast];rw [show (⟨g'.state,g'.fault,g'.allocs,g'.frames⟩:Gor)=g' from rfl];by_cases hlt:j<b.length
 ·have hS:=zv5 (g:=g') (r:=j) (v:=b.getD j zjY) (zbN hI.1 (by omega)) hI.2.1
  have ew:IntKind.i64.wrap ((j:Int)+(1:Int))=((j+1:Nat):Int):=by rw [zav (by omega) (by omega)];rfl
  simp only [zcI hlt,zaj hlt,cond_true,Bool.true_and,hS.1,hS.2,ew];refine ⟨by trivial, .inl ⟨_,rfl,⟨j+1,_,rfl,hlt,zp8 hI⟩,by simp only [Int.toNat_natCast];omega,?_⟩⟩
  rw [List.drop_eq_getElem_cons hlt];simp only [Int.toNat_natCast,zBT];rw [show b.getD j zjY=b[j] from by rw [List.getD_eq_getElem?_getD,zNg hlt];rfl]
  rfl
 ·obtain rfl:j=b.length:=by omega
  simp only [zcV,cond_false];refine ⟨by trivial, .inr ⟨_,rfl,?_⟩⟩
  rw [List.drop_length];rfl
theorem zAP {p:Prg} (h:zFa p):zbw p ⟨0,0,0,[]⟩ p.main [] (-1)=some ⟨0,0,0,[zIQ p.main (p.funcs.getD p.main.toNat dFnc).regs [] (-1)]⟩:=by
 unfold zbw;have e1:inR p.funcs p.main=true:=decide_eq_true ⟨h.main.1,h.main.2.1⟩;have e2:((([]:List Val).length:Int)==(p.funcs.getD p.main.toNat dFnc).params)=true:=by rw [h.main.2.2];rfl
 rw [e1,e2];rfl
theorem zyy {p:Prg} (h:zFa p):zi7 p ⟨0,0,0,[zIQ p.main (p.funcs.getD p.main.toNat dFnc).regs [] (-1)]⟩:=by
 have hp:=zGT h;have hm:=getD_mem (d:=dFnc) (show p.main.toNat<p.funcs.length by have:=h.main;omega)
 have hr:=(hp.fn _ hm).2.2;refine ⟨⟨by show 1≤1000;omega,fun f hf=>?_⟩,Nat.one_pos,fun f hf=>?_,rfl⟩
 ·rw [List.mem_singleton.1 hf];refine ⟨?_,zNk _,fun d hd=>(by cases hd)⟩
  show ([]++List.replicate _ zjY).length≤1000;rw [zNo,List.length_replicate,List.length_nil];omega
 ·rw [List.mem_singleton.1 hf];exact zDC hp _
def zdZ (c:List Val) (g:Gor):Mac:=⟨[⟨0,c,false,0,[],false,0,0,[],[]⟩],[],[g],[]⟩
theorem zCc {p:Prg} {c:List Val} {g:Gor} (hc:c.length≤1000) (h:zi7 p g):MOk 1000 p (zdZ c g) where
 sz:=⟨⟨by show 1≤1000;omega,fun o ho=>by rw [List.mem_singleton.1 ho];exact ⟨hc,zNk _,zNk _,zNk _⟩⟩,⟨zNk _,fun s hs=>(by cases hs)⟩,⟨by show 1≤1000;omega,fun x hx=>by rw [List.mem_singleton.1 hx];exact h.1⟩,zNk _⟩
 so:=fun s t h1 h2=>by
  have:t<1:=h2;omega
 ids:=fun o ho=> .inl (by rw [List.mem_singleton.1 ho])
 als:=fun j hj=>by
  have:j<1:=hj;obtain rfl:j=0:=by omega
  show 0≤g.allocs;rw [h.2.2.2];exact Int.le_refl _
 n8:=by show 1≤8;omega
 pcs:=fun j hj=>by
  have:j<1:=hj;obtain rfl:j=0:=by omega
  exact h.2.2.1
structure zKG (p:Prg):Prop where
 l1:p.layouts.length≤LEN
 l2:∀x∈p.layouts,x.length≤LEN
theorem ztt {p:Prg} {b c:List Val} (hp:zKG p) (hb:b.length≤LEN) (hc:c.length≤LEN):ziD p b c=true∧zgk p b c=(true,()):=by
 have hB:=zc4;have hV:=zGN hp.l1 hp.l2;rw [zld,zlc];unfold ziC ziE;simp only [hV.1,zj4 hb,zj4 hc,Bool.true_and,Bool.not_not];rw [show (zU p).1=zAd p from rfl];cases hv:zAd p with
 |false=>exact ⟨rfl,rfl⟩
 |true=>
  cases (zq b).1 with
  |false=>exact ⟨rfl,rfl⟩
  |true=>
   cases (zq c).1 with
   |false=>exact ⟨rfl,rfl⟩
   |true=>
    simp only [cond_true];cases hl:((c.length:Int) != (p.globals.length:Int)) with
    |true=>exact ⟨rfl,rfl⟩
    |false=>
     have hP:=hV.2 hv;have hl:(c.length:Int)=(p.globals.length:Int):=by simpa using hl
     have hg:=hP.ng;have hO:=zGT hP;have hE:=zkB (p:=p) (g:=⟨0,0,0,[]⟩) (fn:=p.main) (args:=[]) (dest:= -1) (ziz hO.fn (by omega)) ⟨zNk _,fun f hf=>(by cases hf)⟩ (zNk _)
     have hE2:=hE.2;rw [zAP hP] at hE2;have hI:=zyy hP;have hL:=zEw (c:=c) hb hI;simp only [cond_false,hE.1,hE2,hL.1,hL.2,Bool.true_and];have hJ:=znr (l:=b) (i:=0) hI;revert hJ;generalize zBT ⟨0,0,0,[zIQ p.main (p.funcs.getD p.main.toNat dFnc).regs [] (-1)]⟩ 0 b=G;intro hJ;have hM:=zCc (p:=p) (c:=c) (by omega) hJ
     have hk:0<(zdZ c G).goroutines.length:=Nat.one_pos;revert hM hk;show MOk 1000 p (zdZ c G)→0<(zdZ c G).goroutines.length→(decide (c.length*24≤140737488355328)&&(zdA (zdZ c G)&&(zcx p (zj (zdZ c G)).1 0&&(zd9 p (zdZ c G) 0&&(zfV (zaA p (zj (zdZ c G)).1 0).1 (zb4 p (zdZ c G) 0).1&&bif (zdF (zaA p (zj (zdZ c G)).1 0).1 (zb4 p (zdZ c G) 0).1).1 then zfV (zj (zdZ c G)).1 (zdZ c G) else true)))))=true∧(bif (zdF (zaA p (zj (zdZ c G)).1 0).1 (zb4 p (zdZ c G) 0).1).1 then ((zdF (zj (zdZ c G)).1 (zdZ c G)).1,()) else (false,()))=(true,())
     generalize zdZ c G=m;intro hM hk;have hC:=zfa (z3 hM.sz (show 1000≤BIG by omega))
     have h1:=zqt (k:=0) hO (zNm _) (by omega) (by omega) hM hk
     have h2:=zwc (k:=0) hO (zNm _) (by omega) (by omega) hM hk
     have h3:=zwD hO (by omega) 2000 (zNm _) (by omega) hM hk
     have h4:=zuA (z3 h3.1.sz (show 1000+2000≤BIG by omega))
     have h5:=zuA (z3 hM.sz (show 1000≤BIG by omega))
     have hd:decide (c.length*24≤140737488355328)=true:=decide_eq_true (by omega)
     have h1':zcx p m 0=true∧zaA p m 0=(zaR p 0 2000 m,()):=h1;have h2':zd9 p m 0=true∧zb4 p m 0=(zaR p 0 2000 m,()):=h2;simp only [hd,hC.1,hC.2,h1'.1,h1'.2,h2'.1,h2'.2,h4.1,h4.2,h5.1,h5.2,cond_true,Bool.and_self];exact ⟨by trivial,by trivial⟩
end Go.Proofs.YtiepllpgifnloaaGreat.Px
namespace Go.Proofs.YtiepllpgifnloaaGreat.Vx
open Go.RowKit Go.ChangeShapes Go.WideShapes Go.Deep
def RdB (t:RT) (ok:t.ty→Prop) (P:Program) (ty:TypeId):Prop:=
 ∀(H:Type) (enc:TypeId×Value→H) (w:World) (base:Nat) (spare:Nat→Bool) (held:Bool) (fuel:Nat) (cs:List Value) (x:DataW H×List MemPlace),
  DataW.trod enc P w base spare held fuel ty cs=some x→(∀k∈x.1.weights P ty,k≤reachBytes)→∃a:t.ty,Rd w (lt w.heap.size) t a cs∧ok a
theorem zIj {P:Program} {ty:TypeId} {k:IntKind} (ht:P.underlying ty=some (.int k)):RdB (.int k) (fun _=>True) P ty:=by
 intro H enc w base spare held fuel cs x h _;obtain ⟨n,rfl,_⟩:=DataW.trod_int ht h;refine ⟨n,⟨rfl,fun j lf hj=>?_⟩,trivial⟩;cases j with
 |zero=>simp only [RT.leaves,List.getElem?_cons_zero,zNn] at hj;subst hj;exact ⟨_,rfl, .int k n⟩
 |succ j=>simp [RT.leaves] at hj
theorem zkg {H:Type} {P:Program} {e:TypeId}:∀{l:List (DataW H)} {d:DataW H},d∈l→∀k∈d.weights P e,k∈DataW.weightsAll P e l
 |d0::l,d,h,k,hk=>by
  simp only [DataW.weightsAll,List.mem_append];rcases List.mem_cons.1 h with rfl|h
  ·exact .inl hk
  ·exact .inr (zkg h k hk)
theorem zDl {α:Type} {p:Nat→α→Prop}:∀(n:Nat),(∀i,i<n→∃a,p i a)→∃l:List α,l.length=n∧∀i a,l[i]? =some a→p i a
 |0,_=>⟨[],rfl,fun i a h=>by simp at h⟩
 |n+1,h=>by
  obtain ⟨l,hl,hp⟩:=zDl n fun i hi=>h i (by omega)
  obtain ⟨a,ha⟩:=h n (by omega)
  refine ⟨l++[a],by simp [hl],fun i b hb=>?_⟩
  rw [List.getElem?_append] at hb;split at hb
  ·exact hp i b hb
  ·rename_i hi;have hi0:i - l.length=0:=by
    rcases zNl (i - l.length) with h'|h'
    ·exact h'
    ·rw [List.getElem?_eq_none (by simp only [List.length_cons,List.length_nil];omega)] at hb;cases hb
   rw [hi0] at hb;simp only [List.getElem?_cons_zero,zNn] at hb;subst hb;have:i=n:=by omega
   subst this;exact ha
theorem zAA {w:World} {a:Addr} {v:Value} (h:w.cell? a=some v):a.block<w.heap.size∧a.spot=none:=by
 unfold World.cell? at h;split at h
 ·rename_i c t fr hb;refine ⟨(Array.getElem?_eq_some_iff.1 hb).1,?_⟩;cases hs:a.spot with
  |none=>rfl
  |some x=>rw [hs] at h;simp at h
 ·cases h
theorem zuE (a:Addr) (i j:Nat):(a.add i).add j=a.add (i+j):=by
 unfold Addr.add;by_cases hi:i=0<;>by_cases hj:j=0<;>simp [hi,hj,Nat.add_assoc]
def okL {α:Type} (by_:Nat) (ok:α→Prop) (l:List α):Prop:=l.length*by_≤reachBytes∧∀a∈l,ok a
theorem zjO {t:RT} {ok:t.ty→Prop} {P:Program} {ty e:TypeId} {by_:Nat} (ht:P.underlying ty=some (.slice e)) (hC:P.cellsOf e=t.size) (hpos:0<t.size) (hby:P.bytesOf e=by_) (he:RdB t ok P e):
  RdB (.list t) (okL by_ ok) P ty:=by
 intro H enc w base spare held fuel cs x h hw;have one:∀{l:List t.ty} {v:Value},LfR w (lt w.heap.size) (.list t l) v→Rd w (lt w.heap.size) (.list t) l [v]:=fun {l v} hl=>⟨rfl,fun j lf hj=>by
  cases j with
  |zero=>simp only [RT.leaves,List.getElem?_cons_zero,zNn] at hj;subst hj;exact ⟨_,rfl,hl⟩
  |succ j=>simp [RT.leaves] at hj⟩
 rcases open_slice ht h with ⟨rfl,_⟩|⟨a,len,cap,m,n,D,Pl,rfl,hb,hl,hm,hmm,hx,hi⟩
 ·exact ⟨[],one (.list t [] none 0 (fun _ _=>undef) (zNm _) (zNk _) (fun h=>absurd rfl h) (fun _ _ h=>by cases h) (fun i x hx=>by simp at hx)),by rw [List.length_nil,Nat.zero_mul];exact zNk _,fun a h=>by cases h⟩
 ·subst hx;simp only [DataW.weights,ht] at hw;have hlen:len*by_≤reachBytes:=by
   have:=hw _ (List.mem_cons_self ..);rw [List.length_map,List.length_range,hby] at this;exact zNf (zNe _ (Nat.le_add_right _ _)) this
  have hlm:len≤m:=by rw [hmm];split<;>omega
  have hel:∀i,i<len→∃y:t.ty×List Value,(Rd w (lt w.heap.size) t y.1 y.2∧∀j v,y.2[j]? =some v→w.cell? (a.add (i*t.size+j))=some v)∧ok y.1:=by
   intro i hil;obtain ⟨cs',hc,ht'⟩:=hi i (by omega)
   obtain ⟨y,hy,hok⟩:=he H enc w base spare held n cs' _ ht' fun k hk=>hw k (List.mem_cons_of_mem _ (List.mem_append_left _ (zkg (List.mem_map.2 ⟨i,List.mem_range.2 hil,rfl⟩) k hk)));obtain ⟨_,hcl,hat⟩:=World.cells?_some hc;refine ⟨(y,cs'),⟨hy,fun j v hj=>?_⟩,hok⟩;have hjl:j<cs'.length:=(zNa.1 hj).1;rw [hC] at hcl hat;have:=hat j (by omega)
   rw [zuE] at this;rw [this];exact hj
  obtain ⟨l,hll,hlp⟩:=zDl len hel;have hil:∀(i:Nat) (x:t.ty),(l.map Prod.fst)[i]? =some x→∃vs,l[i]? =some (x,vs):=fun i x hx=>by
   rw [List.getElem?_map] at hx;cases hy:l[i]? with
   |none=>rw [hy] at hx;cases hx
   |some y=>rw [hy] at hx;obtain rfl:=zM8 hx;exact ⟨y.2,rfl⟩
  refine ⟨l.map Prod.fst,?_,by rw [List.length_map,hll];exact hlen,fun x hx=>?_⟩
  ·obtain rfl:len=(l.map Prod.fst).length:=by rw [List.length_map,hll]
   refine one (.list t (l.map Prod.fst) (some a) cap (fun i j=>(w.cell? (a.add (i*t.size+j))).getD undef) hl (zNf hl hm) (fun hn=>?_) ?_ ?_)
   ·obtain ⟨y,hy⟩:∃y,l[0]? =some y:=by
     cases l with
     |nil=>exact absurd rfl hn
     |cons y l=>exact ⟨y,rfl⟩
    obtain ⟨⟨hr,hv⟩, -⟩:=hlp 0 y hy;obtain ⟨v0,hv0⟩:∃v,y.2[0]? =some v:=⟨y.2[0]'(by rw [hr.1];exact hpos),zNg (by rw [hr.1];exact hpos)⟩
    have h0:=hv 0 v0 hv0;have ha:a.add (0*t.size+0)=a:=by rw [show 0*t.size+0=0 by omega];exact Addr.add_zero' a
    rw [ha] at h0;obtain ⟨hblk,hsp⟩:=zAA h0;obtain ⟨b,o,s⟩:=a;simp only at hsp hblk;subst hsp;exact ⟨b,o,rfl,hblk,hblk⟩
   ·intro b o e i x hx j lf hj;obtain rfl:=zM8 e;obtain ⟨vs,hvs⟩:=hil i x hx;obtain ⟨⟨hr,hv⟩, -⟩:=hlp i _ hvs;obtain ⟨v,hj',_⟩:=hr.2 j lf hj;have:=hv j v hj';rw [this,Option.getD_some, ←this,Addr.add_lit,Nat.add_assoc]
   ·intro i x hx j lf hj;obtain ⟨vs,hvs⟩:=hil i x hx;obtain ⟨⟨hr,hv⟩, -⟩:=hlp i _ hvs;obtain ⟨v,hj',hlf⟩:=hr.2 j lf hj;rw [hv j v hj',Option.getD_some];exact hlf
  ·obtain ⟨y,hy,rfl⟩:=List.mem_map.1 hx;obtain ⟨i,hi⟩:=List.getElem?_of_mem hy;exact (hlp i y hi).2
theorem zIk {P:Program} {ty:TypeId} (ht:P.underlying ty=some .string):RdB .str (fun _=>True) P ty:=by
 intro H enc w base spare held fuel cs x h _;obtain ⟨s,rfl,_⟩:=DataW.trod_string ht h;refine ⟨s,⟨rfl,fun j lf hj=>?_⟩,trivial⟩;cases j with
 |zero=>simp only [RT.leaves,List.getElem?_cons_zero,zNn] at hj;subst hj;exact ⟨_,rfl, .str s⟩
 |succ j=>simp [RT.leaves] at hj
def RdL (w:World) (ls:List Leaf) (vs:List Value):Prop:=vs.length=ls.length∧∀(j:Nat) (lf:Leaf),ls[j]? =some lf→∃v,vs[j]? =some v∧LfR w (lt w.heap.size) lf v
theorem RdL.cat {w:World} {l m:List Leaf} {vs us:List Value} (h:RdL w l vs) (g:RdL w m us):RdL w (l++m) (vs++us):=by
 refine ⟨by rw [zNo,zNo,h.1,g.1],fun j lf hj=>?_⟩
 rw [List.getElem?_append] at hj;rw [List.getElem?_append,h.1];split at hj
 ·rename_i hjl;rw [if_pos hjl];exact h.2 j lf hj
 ·rename_i hjl;rw [if_neg hjl];exact g.2 _ lf hj
theorem Rd.l {w:World} {t:RT} {x:t.ty} {vs:List Value} (h:Rd w (lt w.heap.size) t x vs):RdL w (t.leaves x) vs:=⟨by rw [h.1,RT.leaves_len],h.2⟩
theorem RdL.rd {w:World} {t:RT} {x:t.ty} {vs:List Value} (h:RdL w (t.leaves x) vs):Rd w (lt w.heap.size) t x vs:=⟨by rw [h.1,RT.leaves_len],h.2⟩
structure Fld where
 t:RT
 ok:t.ty→Prop
 ty:TypeId
def Tup:List Fld→Type
 |[]=>Unit
 |f::l=>f.t.ty×Tup l
def Tup.leaves:(l:List Fld)→Tup l→List Leaf
 |[],_=>[]
 |f::l,x=>f.t.leaves x.1++Tup.leaves l x.2
def Tup.ok:(l:List Fld)→Tup l→Prop
 |[],_=>True
 |f::l,x=>f.ok x.1∧Tup.ok l x.2
def flds (P:Program):Nat→List Fld→List Field→Bool
 |_,[],[]=>true
 |o,f::l,g::m=>Nat.beq g.type f.ty&&(Nat.beq g.offset o&&(Nat.beq (P.cellsOf f.ty) f.t.size&&flds P (o+f.t.size) l m))
 |_,_,_=>false
theorem zwq {P:Program} {H:Type} {enc:TypeId×Value→H} {w:World} {base:Nat} {spare:Nat→Bool} {held:Bool} {n:Nat} {cs:List Value}:
  ∀(l:List Fld) (m:List Field) (o:Nat) (xs:List (DataW H×List MemPlace)),flds P o l m=true→(∀f∈l,RdB f.t f.ok P f.ty)→
   (∀(i:Nat) (f:Field),m[i]? =some f→DataW.trod enc P w base spare held n f.type (List.take (P.cellsOf f.type) (List.drop f.offset cs))=xs[i]?)→xs.length=m.length→
   (∀(i:Nat) (f:Field) (x:DataW H×List MemPlace),m[i]? =some f→xs[i]? =some x→∀k∈x.1.weights P f.type,k≤reachBytes)→
   ∃x:Tup l,∃cl,RdL w (Tup.leaves l x) cl∧Tup.ok l x∧cl<+:cs.drop o
 |[],[],o,xs,_,_,_,_,_=>⟨(),[],⟨rfl,fun j lf hj=>by simp [Tup.leaves] at hj⟩,trivial,List.nil_prefix⟩
 |f::l,g::m,o,xs,hfl,hrd,hf,hxl,hw=>by
  simp only [flds,Bool.and_eq_true] at hfl;obtain ⟨h1,h2,h3,h4⟩:=hfl;have h1:=zM9 h1;have h2:=zM9 h2;have h3:=zM9 h3
  match xs,hxl with
  |y::ys,hxl=>
   have h0:=hf 0 g rfl;rw [h1,h2,h3] at h0;obtain ⟨a,ha,hok⟩:=hrd f (List.mem_cons_self ..) H enc w base spare held n _ y h0 (by have:=hw 0 g y rfl rfl;rw [h1] at this;exact this)
   obtain ⟨x,cl,hx,hxo,hcl⟩:=zwq l m (o+f.t.size) ys h4 (fun q hq=>hrd q (List.mem_cons_of_mem _ hq)) (fun i q hq=>hf (i+1) q hq) (by simpa using hxl) (fun i q z hq hz=>hw (i+1) q z hq hz)
   refine ⟨(a,x),_,ha.l.cat hx,⟨hok,hxo⟩,?_⟩;have e:cs.drop o=List.take f.t.size (cs.drop o)++cs.drop (o+f.t.size):=by rw [←List.drop_drop,List.take_append_drop]
   have h9:=(List.prefix_append_right_inj (List.take f.t.size (cs.drop o))).2 hcl;rw [←e] at h9;exact h9
 |[],_::_,_,_,hfl,_,_,_,_=>by simp [flds] at hfl
 |_::_,[],_,_,hfl,_,_,_,_=>by simp [flds] at hfl
theorem zBM {t:RT} {ok:t.ty→Prop} {P:Program} {ty:TypeId} {fs:Array Field} (l:List Fld) (mk:Tup l→t.ty) (ht:P.underlying ty=some (.struct fs)) (hfl:flds P 0 l fs.toList=true) (hC:P.cellsOf ty=t.size)
  (hl:∀x,t.leaves (mk x)=Tup.leaves l x) (hok:∀x,Tup.ok l x→ok (mk x)) (hrd:∀f∈l,RdB f.t f.ok P f.ty)
  (hw:∀(H:Type) (xs:List (DataW H)) (i:Nat) (f:Field) (d:DataW H),fs.toList[i]? =some f→xs[i]? =some d→∀k∈d.weights P f.type,k∈(DataW.agg xs).weights P ty):RdB t ok P ty:=by
 intro H enc w base spare held fuel cs x h hwt;obtain ⟨xs,n,rfl,rfl,hcl,hxl,hf⟩:=DataW.trod_struct ht h;obtain ⟨y,cl,hy,hyo,hp⟩:=zwq (w:=w) (cs:=cs) l fs.toList 0 xs hfl hrd (fun i f hi=>hf i f (by simpa using hi)) (by simpa using hxl) (fun i f z hi hz k hk=>hwt k (hw H (xs.map Prod.fst) i f z.1 hi (by rw [List.getElem?_map,hz];rfl) k hk))
 rw [List.drop_zero] at hp;have e:cl=cs:=by
  refine hp.eq_of_length ?_;rw [hy.1,hcl,hC, ←hl,RT.leaves_len]
 subst e;exact ⟨mk y,RdL.rd (by rw [hl];exact hy),hok y hyo⟩
end Go.Proofs.YtiepllpgifnloaaGreat.Vx
