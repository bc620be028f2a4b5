/- A library of the proof, and the functions' values and contracts. -/
import Derived.Test.YtiepllpgifnloaaGreatA4
set_option linter.unusedSimpArgs false
set_option linter.unusedVariables false
set_option linter.unusedSectionVars false
set_option linter.defProp false
namespace Go.Proofs.YtiepllpgifnloaaGreat.Px
open Go Go.Proofs.YtiepllpgifnloaaGreat.Vx Go.Proofs
set_option maxRecDepth 1000000
set_option maxHeartbeats 0
noncomputable def zgN (a:Prg) (b:Gor) (c:Int) (d:List Val) (e:Int):Gor×Int×Unit:=let x1:=(d.length:Int);
let x2:=(List.getD a.funcs (Int.toNat c) dFnc).regs;
let x3:=List.replicate (Int.toNat (bif decide (x1>x2) then x1 else x2)) (Val.mk (0:Int) (0:Int) (0:Int));
bif !decide (c<(0:Int)) then bif !decide (c≥(a.funcs.length:Int)) then bif x1 != (List.getD a.funcs (Int.toNat c) dFnc).params then (Gor.mk (0:Int) (0:Int) (0:Int) [],(1:Int),()) else bif decide ((b.frames.length:Int)≥(32:Int)) then (Gor.mk (0:Int) (0:Int) (0:Int) [],(3:Int),()) else (Gor.mk (zf b).fst.state (zf b).fst.fault (zf b).fst.allocs ((zf b).fst.frames++[Frm.mk c (0:Int) (List.take (x3.length) d++List.drop (d.length) x3) e [] false (Val.mk (0:Int) (0:Int) (0:Int))]),(0:Int),()) else (Gor.mk (0:Int) (0:Int) (0:Int) [],(1:Int),()) else (Gor.mk (0:Int) (0:Int) (0:Int) [],(1:Int),())
noncomputable def zgO (a:Prg) (b:Gor) (c:Int) (d:List Val) (e:Int):Bool:=let x1:=(d.length:Int);
let x2:=(a.funcs.length:Int);
let x3:=(List.getD a.funcs (Int.toNat c) dFnc).regs;
let x4:=(List.length (zf b).fst.frames+(1:Nat))*(104:Nat);
let x5:=bif decide (x1>x3) then x1 else x3;
let x6:=(↑(24:Nat):Int)*x5;
bif !decide (c<(0:Int)) then bif !decide (c≥x2) then decide ((0:Int)≤c∧c<x2)&&bif x1 != (List.getD a.funcs (Int.toNat c) dFnc).params then true else bif decide ((b.frames.length:Int)≥(32:Int)) then true else decide (x5=x5∧(0:Int)≤x5∧x6≤(281474976710656:Int))&&(zdp b&&decide (x4≤(140737488355328:Nat))) else true else true
noncomputable def zao:=hide zgN
noncomputable def zdd:=hide zgO
theorem zjj:zao=zgN:=zb _
theorem zji:zdd=zgO:=zb _
noncomputable def zrg:Ctr:=zcB [.v true (.st .prg), .bor (.st .gor), .v false (.int .i64), .v false (.list (.st .val)), .v false (.int .i64)] [.own (.st .gor), .own (.int .i64)] (uu5 zdd) (uu5 zao)
noncomputable def zrh:TT:=T0.a zgP
theorem zij:zi Tryz.prog 189 zrg:=zcS Tryz.f189 zrh (congrArg uu5 zji) (congrArg uu5 zjj) 11 64 (fun _=>noA) 0x41042082082082082042082081042082082082080140002041040041041040081041040
noncomputable def zgL (a:Gor) (b:Dfr):Gor×Unit:=let x1:=Int.toNat (IntKind.i64.wrap ((↑(List.length (zf a).fst.frames):Int) - (1:Int)));
let x2:=List.getD (zf a).fst.frames x1 zo;
bif (↑(List.length (zf a).fst.frames):Int)==(0:Int) then ((zf a).fst,()) else (Gor.mk (zf a).fst.state (zf a).fst.fault (zf a).fst.allocs (List.set (zf a).fst.frames x1 (Frm.mk x2.fn x2.pc x2.regs x2.dest (x2.defers++[b]) x2.leaving x2.result)),())
noncomputable def zgM (a:Gor) (b:Dfr):Bool:=let x1:=(↑(List.length (zf a).fst.frames):Int);
let x2:=b.args.length*(24:Nat);
let x3:=IntKind.i64.wrap (x1 - (1:Int));
let x4:=Int.toNat x3;
let x5:=(List.length (List.getD (zf a).fst.frames x4 zo).defers+(1:Nat))*(32:Nat);
zdp a&&bif x1==(0:Int) then true else decide ((0:Int)≤x3∧x3<x1)&&(decide (x2≤(140737488355328:Nat))&&(decide (x5≤(140737488355328:Nat))&&decide (x4=x4)))
noncomputable def zaX:=hide zgL
noncomputable def zcu:=hide zgM
theorem zjg:zaX=zgL:=zb _
theorem zjf:zcu=zgM:=zb _
noncomputable def zre:Ctr:=zcB [.bor (.st .gor), .v false (.st .dfr)] [.own (.st .gor)] (uu2 zcu) (uu2 zaX)
noncomputable def zrf:TT:=(T0.a zs6).a zgP
theorem znP:zi Tryz.prog 223 zre:=zcS Tryz.f223 zrf (congrArg uu2 zjf) (congrArg uu2 zjg) 5 27 (fun _=>noA) 0x41002000
noncomputable def zgK (a:Int):Bool×Unit:=bif a==(31:Int) then (true,()) else bif a==(32:Int) then (true,()) else bif a==(52:Int) then (true,()) else bif decide (a≥(33:Int)) then (decide (a≤(50:Int)),()) else (false,())
noncomputable def zkb (a:Int):Bool:=true
noncomputable def zdc:=hide zgK
noncomputable def zem:=hide zkb
theorem zjb:zdc=zgK:=zb _
theorem zja:zem=zkb:=zb _
noncomputable def zra:Ctr:=zcB [.v false (.int .i64)] [.own (.bool)] (uu1 zem) (uu1 zdc)
theorem znN:zi Tryz.prog 123 zra:=zcS Tryz.f123 T0 (congrArg uu1 zja) (congrArg uu1 zjb) 1 10 (fun _=>noA) 0x1082081041000040040
noncomputable def zf5 (a:Val):Int×Unit:=bif a.kind==(0:Int) then (a.n,()) else ((0:Int),())
noncomputable def zf6 (a:Val):Bool:=true
noncomputable def zab:=hide zf5
noncomputable def zbc:=hide zf6
theorem zil:zab=zf5:=zb _
theorem zik:zbc=zf6:=zb _
noncomputable def zqm:Ctr:=zcB [.v false (.st .val)] [.own (.int .i64)] (uu1 zbc) (uu1 zab)
theorem zeh:zi Tryz.prog 128 zqm:=zcS Tryz.f128 T0 (congrArg uu1 zik) (congrArg uu1 zil) 1 8 (fun _=>noA) 0x40
noncomputable def zqn (a:Int):Val×Unit:=(Val.mk (0:Int) a (0:Int),())
noncomputable def zqo (a:Int):Bool:=true
noncomputable def zM:=hide zqn
noncomputable def zQ:=hide zqo
theorem znw:zM=zqn:=zb _
theorem znv:zQ=zqo:=zb _
noncomputable def zyO:Ctr:=zcB [.v false (.int .i64)] [.own (.st .val)] (uu1 zQ) (uu1 zM)
theorem zdM:zi Tryz.prog 201 zyO:=zcS Tryz.f201 T0 (congrArg uu1 znv) (congrArg uu1 znw) 1 5 (fun _=>noA) 0
noncomputable def zh2 (a:Bool):Val×Unit:=bif a then ((zM (1:Int)).fst,()) else ((zM (0:Int)).fst,())
noncomputable def zh3 (a:Bool):Bool:=bif a then zQ (1:Int) else zQ (0:Int)
noncomputable def zb9:=hide zh2
noncomputable def zb8:=hide zh3
theorem zke:zb9=zh2:=zb _
theorem zkd:zb8=zh3:=zb _
noncomputable def zuc:Ctr:=zcB [.v false (.bool)] [.own (.st .val)] (uu1 zb8) (uu1 zb9)
noncomputable def zud:TT:=T0.a zdM
theorem zqp:zi Tryz.prog 202 zuc:=zcS Tryz.f202 zud (congrArg uu1 zkd) (congrArg uu1 zke) 1 6 (fun _=>noA) 0x40000
noncomputable def zxO (p0:Prg) (x0:Vmx) (a:Int) (b:Int):Vmx×Unit:=let x1:=List.getD x0.m.goroutines (Int.toNat a) zan;
let x2:=List.set x0.m.goroutines (Int.toNat a) (Gor.mk (3:Int) x1.fault x1.allocs x1.frames);
let x3:=List.getD x2 (Int.toNat a) zan;
(Vmx.mk (Mac.mk x0.m.objects x0.m.syncs (List.set x2 (Int.toNat a) (Gor.mk x3.state b x3.allocs x3.frames)) x0.m.output) x0.events x0.gs,())
noncomputable def zxP (p0:Prg) (x0:Vmx) (a:Int) (b:Int):Bool:=decide ((0:Int)≤a∧a<(x0.m.goroutines.length:Int))
noncomputable def zoL:=hide zxO
noncomputable def zoK:=hide zxP
theorem zzq:zoL=zxO:=zb _
theorem zzp:zoK=zxP:=zb _
noncomputable def zHL:Ctr:=zqP 120 .prg .vmx [.v false (.int .i64), .v false (.int .i64)] [] (vv2 zoK) (vv2 zoL)
theorem zCQ:zi Tryz.prog 62 zHL:=zHu Tryz.f62 T0 (congrArg vv2 zzp) (congrArg vv2 zzq) 7 23 (fun _ _ _=>noA) 0x10c0
noncomputable def zDz (a:Vm) (b:Int):Ins×Bool×Unit:=let x1:=(↑(List.length (List.getD a.m.goroutines (Int.toNat b) zan).frames):Int);
let x2:=List.getD (List.getD a.m.goroutines (Int.toNat b) zan).frames (Int.toNat (IntKind.i64.wrap (x1 - (1:Int)))) zo;
let x3:=x2.fn;
let x4:=x2.pc;
let x5:=(List.getD a.p.funcs (Int.toNat x3) dFnc).code;
let x6:=(x5.length:Int);
bif !decide (b<(0:Int)) then bif !decide (b≥(a.m.goroutines.length:Int)) then bif !(List.getD a.m.goroutines (Int.toNat b) zan).state != (0:Int) then bif x1==(0:Int) then (Ins.mk (0:Int) (0:Int) (0:Int) (0:Int) (0:Int),false,()) else bif !decide (x3<(0:Int)) then bif !decide (x3≥(a.p.funcs.length:Int)) then bif !decide (x4<(0:Int)) then bif decide (x4≥x6) then (Ins.mk (0:Int) (0:Int) (0:Int) (0:Int) (0:Int),false,()) else (List.getD x5 (Int.toNat x4) dIns,true,()) else (Ins.mk (0:Int) (0:Int) (0:Int) (0:Int) (0:Int),false,()) else (Ins.mk (0:Int) (0:Int) (0:Int) (0:Int) (0:Int),false,()) else (Ins.mk (0:Int) (0:Int) (0:Int) (0:Int) (0:Int),false,()) else (Ins.mk (0:Int) (0:Int) (0:Int) (0:Int) (0:Int),false,()) else (Ins.mk (0:Int) (0:Int) (0:Int) (0:Int) (0:Int),false,()) else (Ins.mk (0:Int) (0:Int) (0:Int) (0:Int) (0:Int),false,())
noncomputable def zDB (a:Vm) (b:Int):Bool:=let x1:=(a.p.funcs.length:Int);
let x2:=(a.m.goroutines.length:Int);
let x3:=(↑(List.length (List.getD a.m.goroutines (Int.toNat b) zan).frames):Int);
let x4:=IntKind.i64.wrap (x3 - (1:Int));
let x5:=List.getD (List.getD a.m.goroutines (Int.toNat b) zan).frames (Int.toNat x4) zo;
let x6:=x5.fn;
let x7:=x5.pc;
let x8:=(↑(List.length (List.getD a.p.funcs (Int.toNat x6) dFnc).code):Int);
bif !decide (b<(0:Int)) then bif !decide (b≥x2) then decide ((0:Int)≤b∧b<x2)&&bif !(List.getD a.m.goroutines (Int.toNat b) zan).state != (0:Int) then bif x3==(0:Int) then true else decide ((0:Int)≤x4∧x4<x3)&&bif !decide (x6<(0:Int)) then bif !decide (x6≥x1) then bif !decide (x7<(0:Int)) then decide ((0:Int)≤x6∧x6<x1)&&bif decide (x7≥x8) then true else decide ((0:Int)≤x7∧x7<x8) else true else true else true else true else true else true
noncomputable def zkr:=hide zDz
noncomputable def ztF:=hide zDB
theorem zzL:zkr=zDz:=zb _
theorem zzK:ztF=zDB:=zb _
noncomputable def zH9:Ctr:=zcB [.ptr 120 (.v false (.st .vm)), .v false (.int .i64)] [.own (.st .ins), .own (.bool)] (uu2 ztF) (uu2 zkr)
theorem zDA:zi Tryz.prog 122 zH9:=zcS Tryz.f122 T0 (congrArg uu2 zzK) (congrArg uu2 zzL) 20 112 (fun _=>noA) 0x1041082082082082082081082082082082082042082082082041082082082082082081082082082082081042082082082082081042082082082082082082082082081082082081082082082082082041082082082082082082082082082042082081042082082082082082082082082004002041041001041041041041041041002041041002041041041041041000140081041044041041041002041040041041041002041041041040
noncomputable def zEf (a:Vm) (b:Int) (c:Int):Val×Unit:=let x1:=(List.getD (List.getD a.m.goroutines (Int.toNat b) zan).frames (Int.toNat (IntKind.i64.wrap ((↑(List.length (List.getD a.m.goroutines (Int.toNat b) zan).frames):Int) - (1:Int)))) zo).regs;
let x2:=(x1.length:Int);
bif !decide (c<(0:Int)) then bif decide (c≥x2) then (Val.mk (0:Int) (0:Int) (0:Int),()) else (List.getD x1 (Int.toNat c) zjY,()) else (Val.mk (0:Int) (0:Int) (0:Int),())
noncomputable def zEh (a:Vm) (b:Int) (c:Int):Bool:=let x1:=(↑(List.length (List.getD a.m.goroutines (Int.toNat b) zan).frames):Int);
let x2:=IntKind.i64.wrap (x1 - (1:Int));
let x3:=(↑(List.length (List.getD (List.getD a.m.goroutines (Int.toNat b) zan).frames (Int.toNat x2) zo).regs):Int);
decide ((0:Int)≤b∧b<(a.m.goroutines.length:Int))&&(decide ((0:Int)≤x2∧x2<x1)&&bif !decide (c<(0:Int)) then bif decide (c≥x3) then true else decide ((0:Int)≤c∧c<x3) else true)
noncomputable def zeC:=hide zEf
noncomputable def zii:=hide zEh
theorem zEi:zeC=zEf:=zb _
theorem zEg:zii=zEh:=zb _
noncomputable def zJM:Ctr:=zcB [.ptr 120 (.v false (.st .vm)), .v false (.int .i64), .v false (.int .i64)] [.own (.st .val)] (uu3 zii) (uu3 zeC)
theorem zob:zi Tryz.prog 115 zJM:=zcS Tryz.f115 T0 (congrArg uu3 zEg) (congrArg uu3 zEi) 20 27 (fun _=>noA) 0x1041082080002041040000
noncomputable def zFe (a:Vm) (b:Int) (c:Int) (d:Int) (i0:(List Val)×Int×Unit):Snap:=⟨[(0, .ptr 19 0),(1,vI b),(2,vI c),(9, .lw 21 21 [] 3 (List.length (i0.1))),(11,vI d),(12,vI (i0.2.1))],[(1,bV),(2,bT .ro (.st .fnc) a.p.funcs 1),(3,bV),(4,bT .ro (.st .glb) a.p.globals 3),(5,bV),(6,bT .ro (RT.list (RT.int IntKind.i64)) a.p.layouts 5),(7,bV),(8,bT .ro (.st .ob) a.m.objects 7),(9,bV),(10,bT .ro (.st .syn) a.m.syncs 9),(11,bV),(12,bT .ro (.st .gor) a.m.goroutines 11),(13,bV),(14,bT .ro (RT.int IntKind.i64) a.m.output 13),(15,bV),(16,bT .ro (.st .ev) a.events 15),(17,bV),(18,bT .ro (RT.int IntKind.i64) a.gs 17),(19,bC 120 [.lw 2 2 [] 4 a.p.funcs.length, .lw 4 4 [] 2 a.p.globals.length, .lw 6 6 [] 1 a.p.layouts.length,vI a.p.main, .lw 8 8 [] 10 a.m.objects.length, .lw 10 10 [] 6 a.m.syncs.length, .lw 12 12 [] 4 a.m.goroutines.length, .lw 14 14 [] 1 a.m.output.length, .lw 16 16 [] 9 a.events.length, .lw 18 18 [] 1 a.gs.length]),(20,bV),(21,bT .all (.st .val) (i0.1) 20)],22⟩
noncomputable def zAp (a:Vm) (b:Int) (c:Int) (d:Int) (u9:(List Val)×Unit):Snap:=⟨[(9, .lw 23 23 [] 3 (List.length (u9.1)))],[(22,bV),(23,bT .all (.st .val) (u9.1) 22)],24⟩
noncomputable def zjt (a:Vm) (b:Int) (c:Int) (d:Int) (i0:(List Val)×Int×Unit):((List Val)×Int×Unit)⊕((List Val)×Unit):=let x1:=i0.snd.fst;
bif decide (x1<d) then Sum.inl (i0.fst++[(zeC a b (IntKind.i64.wrap (c+x1))).fst],IntKind.i64.wrap (x1+(1:Int)),()) else Sum.inr (i0.fst,())
noncomputable def zkQ (a:Vm) (b:Int) (c:Int) (d:Int) (i0:(List Val)×Int×Unit):Bool:=let x1:=i0.snd.fst;
let x2:=(i0.fst.length+(1:Nat))*(24:Nat);
bif decide (x1<d) then zii a b (IntKind.i64.wrap (c+x1))&&decide (x2≤(140737488355328:Nat)) else true
noncomputable def zxb (a:Vm) (b:Int) (c:Int) (d:Int):(List Val)×Unit:=((zd (zjt a b c d) ([],()) X_N ([],(0:Int),())).fst,())
noncomputable def zxc (a:Vm) (b:Int) (c:Int) (d:Int):Bool:=X_wok (zjt a b c d) (zkQ a b c d) X_N ([],(0:Int),())
noncomputable def zgu:=hide zxb
noncomputable def zgt:=hide zxc
theorem zy5:zgu=zxb:=zb _
theorem zy4:zgt=zxc:=zb _
noncomputable def zHj:Ctr:=zcB [.ptr 120 (.v false (.st .vm)), .v false (.int .i64), .v false (.int .i64), .v false (.int .i64)] [.own (.list (.st .val))] (uu4 zgt) (uu4 zgu)
noncomputable def zHi (a:Vm) (b:Int) (c:Int) (d:Int):Nat→ze5:=fun q=>match q with|0=> .mk [⟨9,none,(.list (.st .val))⟩,⟨12,none,(.int .i64)⟩] (zFe a b c d) [⟨.exit 0,[⟨9,none,(.list (.st .val))⟩],zAp a b c d⟩] (zjt a b c d) (zkQ a b c d) (H 0x1000) (fun (_:(List Val)×Int×Unit)=>fun _=> .no)|_=> .no
noncomputable def zHk:TT:=T0.a zob
theorem zuG:zi Tryz.prog 187 zHj:=zcS Tryz.f187 zHk (congrArg uu4 zy4) (congrArg uu4 zy5) 20 26 (uu4 zHi) 0x40 (fun zz=>zC [(0,(zaP 0 (bd Tryz.f187)))] (by kernel_rfl) ⟨fun _=>⟨by kernel_rfl,zm (by kernel_rfl)⟩,trivial⟩)
noncomputable def zfl (a:Int) (b:Int):Int×Unit:=bif a != a then bif b != b then ((0:Int),()) else ((-1:Int),()) else bif b != b then ((1:Int),()) else bif decide (a<b) then ((-1:Int),()) else bif decide (a>b) then ((1:Int),()) else ((0:Int),())
noncomputable def zfn (a:Int) (b:Int):Bool:=true
noncomputable def zfo:=hide zfl
noncomputable def zfm:=hide zfn
theorem zjX:zfo=zfl:=zb _
theorem zjW:zfm=zfn:=zb _
noncomputable def zkk:Ctr:=zcB [.v false (.int .i64), .v false (.int .i64)] [.own (.int .i64)] (uu2 zfm) (uu2 zfo)
theorem zaD:zi Tryz.prog 105 zkk:=zcS Tryz.f105 T0 (congrArg uu2 zjW) (congrArg uu2 zjX) 1 20 (fun _=>noA) 0x40000000
noncomputable def zAu (a:List Ob) (b:Int) (c:Unit) (i0:Int×Int×Unit):Snap:=⟨[(0, .lw 2 2 [] 10 a.length),(1,vI b),(2, .fn 297 []),(8,vI (↑a.length)),(9,vI (i0.1)),(10,vI (i0.2.1))],[(1,bV),(2,bT .ro (.st .ob) a 1)],3⟩
noncomputable def zuO (a:List Ob) (b:Int) (c:Unit) (u9:Int×Unit):Snap:=⟨[(0, .lw 2 2 [] 10 a.length),(1,vI b),(2, .fn 297 []),(8,vI (↑a.length)),(9,vI (u9.1))],[(1,bV),(2,bT .ro (.st .ob) a 1)],3⟩
noncomputable def zju (a:List Ob) (b:Int) (c:Unit) (i0:Int×Int×Unit):(Int×Int×Unit)⊕(Int×Unit):=let x1:=i0.fst;
let x2:=i0.snd.fst;
let x3:=IntKind.i64.wrap (Int.fdiv (IntKind.wrap IntKind.u64 (IntKind.i64.wrap (x1+x2))) ((2:Int)^Min.min (Int.toNat (1:Int)) (IntKind.bits IntKind.u64)));
let x4:=(List.getD a (Int.toNat x3) dOb).id;
bif decide (x1<x2) then bif x4 != x4 then bif b != b then Sum.inl (x1,x3,()) else Sum.inl (IntKind.i64.wrap (x3+(1:Int)),x2,()) else bif b != b then Sum.inl (x1,x3,()) else bif decide (x4<b) then Sum.inl (IntKind.i64.wrap (x3+(1:Int)),x2,()) else bif decide (x4>b) then Sum.inl (x1,x3,()) else Sum.inl (x1,x3,()) else Sum.inr (x1,())
noncomputable def zrs (a:List Ob) (b:Int) (c:Unit) (i0:Int×Int×Unit):Bool:=let x1:=i0.snd.fst;
let x2:=IntKind.i64.wrap (Int.fdiv (IntKind.wrap IntKind.u64 (IntKind.i64.wrap (i0.fst+x1))) ((2:Int)^Min.min (Int.toNat (1:Int)) (IntKind.bits IntKind.u64)));
bif decide (i0.fst<x1) then decide ((0:Int)≤x2∧x2<(a.length:Int)) else true
noncomputable def zuP (a:List Ob) (b:Int) (c:Unit):Int×Bool×Unit:=let x1:=(zd (zju a b c) ((0:Int),()) X_N ((0:Int),(a.length:Int),())).fst;
let x2:=(List.getD a (Int.toNat x1) dOb).id;
bif decide (x1<(a.length:Int)) then bif x2 != x2 then bif b != b then (x1,(0:Int)==(0:Int),()) else (x1,(-1:Int)==(0:Int),()) else bif b != b then (x1,(1:Int)==(0:Int),()) else bif decide (x2<b) then (x1,(-1:Int)==(0:Int),()) else bif decide (x2>b) then (x1,(1:Int)==(0:Int),()) else (x1,(0:Int)==(0:Int),()) else (x1,false,())
noncomputable def zuQ (a:List Ob) (b:Int) (c:Unit):Bool:=let x1:=(zd (zju a b c) ((0:Int),()) X_N ((0:Int),(a.length:Int),())).fst;
X_wok (zju a b c) (zrs a b c) X_N ((0:Int),(a.length:Int),())&&bif decide (x1<(a.length:Int)) then decide ((0:Int)≤x1∧x1<(a.length:Int)) else true
noncomputable def zdq:=hide zuP
noncomputable def zit:=hide zuQ
theorem zru:zdq=zuP:=zb _
theorem zrt:zit=zuQ:=zb _
noncomputable def zgX:Ctr:=zcB [.v false (.list (.st .ob)), .v false (.int .i64), .fn0 297] [.own (.int .i64), .own (.bool)] (uu3 zit) (uu3 zdq)
noncomputable def zCp (a:List Ob) (b:Int) (c:Unit):Nat→ze5:=fun q=>match q with|0=> .mk [⟨9,none,(.int .i64)⟩,⟨10,none,(.int .i64)⟩] (zAu a b c) [⟨.exit 0,[⟨9,none,(.int .i64)⟩],zuO a b c⟩] (zju a b c) (zrs a b c) (H 0x42080040080042000000) (fun (_:Int×Int×Unit)=>fun _=> .no)|_=> .no
theorem zfj:zi Tryz.prog 241 zgX:=zcS Tryz.f241 T0 (congrArg uu3 zrt) (congrArg uu3 zru) 3 49 (uu3 zCp) 0x1082082082082041041001040041001041040001041001041000 (fun zz=>zC [(0,(zaP 0 (bd Tryz.f241)))] (by kernel_rfl) ⟨fun _=>⟨by kernel_rfl,zm (by kernel_rfl)⟩,trivial⟩)
noncomputable def zFi (a:List Ob) (b:Int) (c:Unit) (i0:Int×Int×Unit):Snap:=⟨[(0, .lw 2 2 [] 10 a.length),(1,vI b),(2, .fn 242 []),(8,vI (↑a.length)),(9,vI (i0.1)),(10,vI (i0.2.1))],[(1,bV),(2,bT .ro (.st .ob) a 1)],3⟩
noncomputable def zAv (a:List Ob) (b:Int) (c:Unit) (u9:Int×Unit):Snap:=⟨[(0, .lw 2 2 [] 10 a.length),(1,vI b),(2, .fn 242 []),(8,vI (↑a.length)),(9,vI (u9.1))],[(1,bV),(2,bT .ro (.st .ob) a 1)],3⟩
noncomputable def zhE (a:List Ob) (b:Int) (c:Unit) (i0:Int×Int×Unit):(Int×Int×Unit)⊕(Int×Unit):=let x1:=i0.fst;
let x2:=i0.snd.fst;
let x3:=IntKind.i64.wrap (Int.fdiv (IntKind.wrap IntKind.u64 (IntKind.i64.wrap (x1+x2))) ((2:Int)^Min.min (Int.toNat (1:Int)) (IntKind.bits IntKind.u64)));
let x4:=(List.getD a (Int.toNat x3) dOb).id;
bif decide (x1<x2) then bif x4 != x4 then bif b != b then Sum.inl (x1,x3,()) else Sum.inl (IntKind.i64.wrap (x3+(1:Int)),x2,()) else bif b != b then Sum.inl (x1,x3,()) else bif decide (x4<b) then Sum.inl (IntKind.i64.wrap (x3+(1:Int)),x2,()) else bif decide (x4>b) then Sum.inl (x1,x3,()) else Sum.inl (x1,x3,()) else Sum.inr (x1,())
noncomputable def znT (a:List Ob) (b:Int) (c:Unit) (i0:Int×Int×Unit):Bool:=let x1:=i0.snd.fst;
let x2:=IntKind.i64.wrap (Int.fdiv (IntKind.wrap IntKind.u64 (IntKind.i64.wrap (i0.fst+x1))) ((2:Int)^Min.min (Int.toNat (1:Int)) (IntKind.bits IntKind.u64)));
bif decide (i0.fst<x1) then decide ((0:Int)≤x2∧x2<(a.length:Int)) else true
noncomputable def zxe (a:List Ob) (b:Int) (c:Unit):Int×Bool×Unit:=let x1:=(zd (zhE a b c) ((0:Int),()) X_N ((0:Int),(a.length:Int),())).fst;
let x2:=(List.getD a (Int.toNat x1) dOb).id;
bif decide (x1<(a.length:Int)) then bif x2 != x2 then bif b != b then (x1,(0:Int)==(0:Int),()) else (x1,(-1:Int)==(0:Int),()) else bif b != b then (x1,(1:Int)==(0:Int),()) else bif decide (x2<b) then (x1,(-1:Int)==(0:Int),()) else bif decide (x2>b) then (x1,(1:Int)==(0:Int),()) else (x1,(0:Int)==(0:Int),()) else (x1,false,())
noncomputable def zxf (a:List Ob) (b:Int) (c:Unit):Bool:=let x1:=(zd (zhE a b c) ((0:Int),()) X_N ((0:Int),(a.length:Int),())).fst;
X_wok (zhE a b c) (znT a b c) X_N ((0:Int),(a.length:Int),())&&bif decide (x1<(a.length:Int)) then decide ((0:Int)≤x1∧x1<(a.length:Int)) else true
noncomputable def zby:=hide zxe
noncomputable def ziw:=hide zxf
theorem zsL:zby=zxe:=zb _
theorem zsK:ziw=zxf:=zb _
noncomputable def zmd:Ctr:=zcB [.v false (.list (.st .ob)), .v false (.int .i64), .fn0 242] [.own (.int .i64), .own (.bool)] (uu3 ziw) (uu3 zby)
noncomputable def zHq (a:List Ob) (b:Int) (c:Unit):Nat→ze5:=fun q=>match q with|0=> .mk [⟨9,none,(.int .i64)⟩,⟨10,none,(.int .i64)⟩] (zFi a b c) [⟨.exit 0,[⟨9,none,(.int .i64)⟩],zAv a b c⟩] (zhE a b c) (znT a b c) (H 0x42080040080042000000) (fun (_:Int×Int×Unit)=>fun _=> .no)|_=> .no
theorem ziv:zi Tryz.prog 241 zmd:=zcS Tryz.f241 T0 (congrArg uu3 zsK) (congrArg uu3 zsL) 3 49 (uu3 zHq) 0x1082082082082041041001040041001041040001041001041000 (fun zz=>zC [(0,(zaP 0 (bd Tryz.f241)))] (by kernel_rfl) ⟨fun _=>⟨by kernel_rfl,zm (by kernel_rfl)⟩,trivial⟩)
open Go Go.Proofs.YtiepllpgifnloaaGreat.Vx
def zbv (l:List Ob):Prop:=∀(s t:Nat),s<t→t<l.length→(l.getD s dOb).id<(l.getD t dOb).id
def placeK (l:List Ob) (b:Int):Nat:=l.findIdx fun o=>decide (b≤o.id)
theorem zjE (l:List Ob) (b:Int):placeK l b≤l.length:=List.findIdx_le_length
theorem ztJ {l:List Ob} {b:Int} {t:Nat} (h:t<placeK l b):(l.getD t dOb).id<b:=by
 have hl:t<l.length:=zNd h (zjE l b);have:=List.not_of_lt_findIdx h;rw [List.getD_eq_getElem?_getD,zNg hl];simp only [Option.getD_some];have h2:¬b≤l[t].id:=by simpa using this
 omega
theorem zn8 {l:List Ob} {b:Int} (h:placeK l b<l.length):b≤(l.getD (placeK l b) dOb).id:=by
 have:=List.findIdx_getElem (w:=h);rw [List.getD_eq_getElem?_getD,zNg h];exact of_decide_eq_true this
theorem zGl {l:List Ob} {b:Int} {i:Nat} (hi:i≤l.length) (h1:∀t:Nat,t<i→(l.getD t dOb).id<b) (h2:∀t:Nat,i≤t→t<l.length→b≤(l.getD t dOb).id):placeK l b=i:=by
 rcases Nat.lt_trichotomy (placeK l b) i with h|h|h
 ·have:=zn8 (l:=l) (b:=b) (by omega)
  have:=h1 _ h;omega
 ·exact h
 ·have:=ztJ h;have:=h2 i (zNm i) (zNd h (zjE l b));omega
theorem zHO {i j:Nat} (hi:i≤68719476736) (hj:j≤68719476736):IntKind.i64.wrap (Int.fdiv (IntKind.wrap IntKind.u64 (IntKind.i64.wrap ((i:Int)+(j:Int)))) ((2:Int)^Min.min (Int.toNat (1:Int)) (IntKind.bits IntKind.u64)))=(((i+j) / 2:Nat):Int):=by
 have e1:IntKind.i64.wrap ((i:Int)+(j:Int))=((i+j:Nat):Int):=by rw [zav (by omega) (by omega)];omega
 have e2:IntKind.wrap IntKind.u64 ((i+j:Nat):Int)=((i+j:Nat):Int):=by
  simp only [IntKind.wrap];simp [IntKind.bits,IntKind.signed];omega
 have e3:((2:Int)^Min.min (Int.toNat (1:Int)) (IntKind.bits IntKind.u64))=2:=by decide
 rw [e1,e2,e3];have e4:Int.fdiv ((i+j:Nat):Int) 2=(((i+j) / 2:Nat):Int):=by
  rw [Int.fdiv_eq_ediv_of_nonneg _ (by omega)];omega
 rw [e4,zav (by omega) (by omega)]
def za4 (l:List Ob) (b:Int):Bool:=decide (placeK l b<l.length)&&((l.getD (placeK l b) dOb).id==b)
theorem zHr {l:List Ob} {b:Int} (hs:zbv l) (hl:l.length≤BIG):X_wok (zhE l b ()) (znT l b ()) X_N ((0:Int),(l.length:Int),())=true∧zd (zhE l b ()) ((0:Int),()) X_N ((0:Int),(l.length:Int),())=((placeK l b:Int),()):=by
 have hB:l.length≤68719476736:=hl;refine zeS (d:=((0:Int),())) (fun x=>∃i j:Nat,x=((i:Int),(j:Int),())∧i≤j∧j≤l.length∧(∀t:Nat,t<i→(l.getD t dOb).id<b)∧∀t:Nat,j≤t→t<l.length→b≤(l.getD t dOb).id) (fun x=>x.2.1.toNat - x.1.toNat) (fun _=>((placeK l b:Int),()))
  (fun x hx=>?_) ⟨0,l.length,rfl,zNk _,zNm _,fun t h=>absurd h (Nat.not_lt_zero t),fun t h1 h2=>by omega⟩ (by
   show l.length - 0<X_N;have:X_N=4611686018427387904:=rfl;omega)
 obtain ⟨i,j,rfl,hij,hjl,h1,h2⟩:=hx;unfold zhE znT;simp only [zHO (zNf hij (zNf hjl hB)) (zNf hjl hB),Int.toNat_natCast];by_cases hlt:i<j
 ·have hh:(i+j) / 2<l.length:=by omega
  simp only [zcI hlt,cond_true,zaj hh,bne_self_eq_false,cond_false];refine ⟨by trivial, .inl ?_⟩
  generalize hx4:(l.getD ((i+j) / 2) dOb).id=y;by_cases hy:y<b
  ·have e1:decide (y<b)=true:=decide_eq_true hy;have ew:IntKind.i64.wrap ((((i+j) / 2:Nat):Int)+(1:Int))=(((i+j) / 2+1:Nat):Int):=by rw [zav (by omega) (by omega)];rfl
   simp only [e1,cond_true,ew];refine ⟨_,by trivial,⟨(i+j) / 2+1,j,rfl,by omega,hjl,fun t ht=>?_,h2⟩,?_,by trivial⟩
   ·rcases Nat.lt_or_ge t ((i+j) / 2) with h|h
    ·have:=hs t _ h hh;omega
    ·obtain rfl:t=(i+j) / 2:=by omega
     omega
   ·simp only [Int.toNat_natCast];omega
  ·have e1:decide (y<b)=false:=decide_eq_false hy;simp only [e1,cond_false];refine ⟨((i:Int),(((i+j) / 2:Nat):Int),()),by cases decide (y>b)<;>rfl,⟨i,(i+j) / 2,rfl,by omega,by omega,h1,fun t ht htl=>?_⟩,?_,by trivial⟩
   ·rcases Nat.lt_or_ge ((i+j) / 2) t with h|h
    ·have:=hs _ t h htl;omega
    ·obtain rfl:t=(i+j) / 2:=by omega
     omega
   ·simp only [Int.toNat_natCast];omega
 ·obtain rfl:i=j:=by omega
  simp only [zcV,cond_false];refine ⟨by trivial, .inr ⟨_,by trivial,?_⟩⟩
  rw [zGl hjl h1 h2]
theorem zjv {l:List Ob} {b:Int} (hs:zbv l) (hl:l.length≤BIG):ziw l b ()=true∧zby l b ()=((placeK l b:Int),za4 l b,()):=by
 rw [zsL,zsK];unfold zxe zxf za4;have hk:=zHr (b:=b) hs hl;simp only [hk.1,hk.2,Int.toNat_natCast,bne_self_eq_false,cond_false,Bool.true_and];by_cases hlt:placeK l b<l.length
 ·have ha:=zn8 hlt;simp only [zcI hlt,zaj hlt,cond_true,decide_eq_true hlt,Bool.true_and];refine ⟨by trivial,?_⟩
  generalize (l.getD (placeK l b) dOb).id=y at*;have e1:decide (y<b)=false:=decide_eq_false (by omega)
  rcases Int.lt_or_eq_of_le ha with h|h
  ·have e2:decide (y>b)=true:=decide_eq_true h;have e3:(y==b)=false:=by simp;omega
   simp only [e1,e2,e3,cond_false,cond_true];rfl
  ·subst h;simp
 ·have e1:decide ((placeK l b:Int)<(l.length:Int))=false:=decide_eq_false (by omega)
  simp only [e1,cond_false,decide_eq_false hlt,Bool.false_and];exact ⟨by trivial,by trivial⟩
theorem zjx {l:List Ob} {b:Int} (hs:zbv l):zin l b=bif za4 l b then some (l.getD (placeK l b) dOb) else none:=by
 rw [zCT (i:=placeK l b) (zjE l b) fun j hj=>by have:=ztJ hj;omega]
 unfold za4;by_cases hlt:placeK l b<l.length
 ·unfold zin;rw [List.drop_eq_getElem_cons hlt];have eg:l.getD (placeK l b) dOb=l[placeK l b]:=by rw [List.getD_eq_getElem?_getD,zNg hlt];rfl
  rw [eg];by_cases he:l[placeK l b].id=b
  ·rw [List.find?_cons_of_pos (by simpa using he)]
   simp [hlt,he]
  ·rw [List.find?_cons_of_neg (by simpa using he)]
   have ha:=zn8 hlt;rw [eg] at ha;have:List.find? (fun o:Ob=>o.id==b) (l.drop (placeK l b+1))=none:=by
    rw [List.find?_eq_none];intro o ho;obtain ⟨t,ht,rfl⟩:=List.mem_iff_getElem.1 ho;rw [List.getElem_drop];have htl:placeK l b+1+t<l.length:=by rw [List.length_drop] at ht;omega
    have:=hs (placeK l b) (placeK l b+1+t) (by omega) htl
    rw [eg,List.getD_eq_getElem?_getD,zNg htl] at this;simp only [Option.getD_some] at this;simp only [beq_iff_eq];omega
   rw [this];have e3:(l[placeK l b].id==b)=false:=by simpa using he
   rw [e3,Bool.and_false];rfl
 ·have:placeK l b=l.length:=Nat.le_antisymm (zjE l b) (by omega)
  rw [this,List.drop_length];simp [zin]
noncomputable def zmf (a:Vm) (b:Val):Int×Bool×Unit:=let x1:=List.getD a.m.objects (Int.toNat (zby a.m.objects b.n ()).fst) dOb;
let x2:=x1.cells_;
let x3:=(x2.length:Int);
let x4:=List.getD x2 (Int.toNat (0:Int)) zjY;
let x5:=x4.n;
bif b.kind != (2:Int) then ((0:Int),false,()) else bif !(zby a.m.objects b.n ()).snd.fst then ((0:Int),false,()) else bif x1.chan then ((0:Int),false,()) else bif decide ((0:Int)≥x3) then ((0:Int),false,()) else bif !x4.kind != (0:Int) then bif !decide (x5<(0:Int)) then bif !decide (x5≥(a.p.funcs.length:Int)) then bif (List.getD a.p.funcs (Int.toNat x5) dFnc).params != (1:Int) then ((0:Int),false,()) else (x5,true,()) else ((0:Int),false,()) else ((0:Int),false,()) else ((0:Int),false,())
noncomputable def zmg (a:Vm) (b:Val):Bool:=let x1:=(a.p.funcs.length:Int);
let x2:=(zby a.m.objects b.n ()).fst;
let x3:=List.getD a.m.objects (Int.toNat x2) dOb;
let x4:=x3.cells_;
let x5:=(x4.length:Int);
let x6:=List.getD x4 (Int.toNat (0:Int)) zjY;
let x7:=x6.n;
bif b.kind != (2:Int) then true else ziw a.m.objects b.n ()&&bif !(zby a.m.objects b.n ()).snd.fst then true else decide ((0:Int)≤x2∧x2<(a.m.objects.length:Int))&&bif x3.chan then true else bif decide ((0:Int)≥x5) then true else decide ((0:Int)≤(0:Int)∧(0:Int)<x5)&&bif !x6.kind != (0:Int) then bif !decide (x7<(0:Int)) then bif !decide (x7≥x1) then decide ((0:Int)≤x7∧x7<x1) else true else true else true
noncomputable def zdm:=hide zmf
noncomputable def zgY:=hide zmg
theorem zov:zdm=zmf:=zb _
theorem zou:zgY=zmg:=zb _
noncomputable def zAD:Ctr:=zcB [.ptr 120 (.v false (.st .vm)), .v false (.st .val)] [.own (.int .i64), .own (.bool)] (uu2 zgY) (uu2 zdm)
noncomputable def zAE:TT:=(T0.a zaD).a (show zi Tryz.prog 241 (orC [.v false (.list (.st .ob)), .v false (.int .i64), .fn0 242] zmd zgX) from (zvI ziv zfj))
theorem zuS:zi Tryz.prog 188 zAD:=zcS Tryz.f188 zAE (congrArg uu2 zou) (congrArg uu2 zov) 20 63 (fun _=>noA) 0x41042082082082082082082042082082082082082042082081042082082082082082082042082082082082081042082082082082082080081041001041041041041002041041041041041002041041002041041040041082082082082082082081082082082082082081082082081082082080081041041041041042082082082082082082042082082082082082042082082042082082002041041001042082082082082082082042082082082082082042082082042082082041082082000041082082082082082082081082082082082082081082082081082082080
noncomputable def zyJ (a:Vm) (b:Val):Val×Int×Unit:=bif b.kind==(1:Int) then ((zM (0:Int)).fst,(0:Int),()) else bif !(zby a.m.objects b.n ()).snd.fst then bif !b.kind != (2:Int) then (b,(1:Int),()) else (b,(1:Int),()) else bif !b.kind != (2:Int) then ((zM (↑(List.length (List.getD a.m.objects (Int.toNat (zby a.m.objects b.n ()).fst) dOb).cells_):Int)).fst,(0:Int),()) else (b,(1:Int),())
noncomputable def zyK (a:Vm) (b:Val):Bool:=let x1:=(zby a.m.objects b.n ()).fst;
bif b.kind==(1:Int) then zQ (0:Int) else ziw a.m.objects b.n ()&&bif !(zby a.m.objects b.n ()).snd.fst then true else decide ((0:Int)≤x1∧x1<(a.m.objects.length:Int))&&bif !b.kind != (2:Int) then zQ (↑(List.length (List.getD a.m.objects (Int.toNat x1) dOb).cells_):Int) else true
noncomputable def zm4:=hide zyJ
noncomputable def zqh:=hide zyK
theorem zz6:zm4=zyJ:=zb _
theorem zz5:zqh=zyK:=zb _
noncomputable def zIt:Ctr:=zcB [.ptr 120 (.v false (.st .vm)), .v false (.st .val)] [.own (.st .val), .own (.int .i64)] (uu2 zqh) (uu2 zm4)
noncomputable def zIu:TT:=((T0.a zdM).a zaD).a (show zi Tryz.prog 241 (orC [.v false (.list (.st .ob)), .v false (.int .i64), .fn0 242] zmd zgX) from (zvI ziv zfj))
theorem zEF:zi Tryz.prog 266 zIt:=zcS Tryz.f266 zIu (congrArg uu2 zz5) (congrArg uu2 zz6) 20 29 (fun _=>noA) 0x1041080082040001042042040000000
noncomputable def zt3 (a:Vm) (b:Val) (c:Int):Val×Int×Unit:=let x1:=List.getD a.m.objects (Int.toNat (zby a.m.objects b.n ()).fst) dOb;
let x2:=(x1.cells_.length:Int);
bif b.kind != (2:Int) then (b,(1:Int),()) else bif !(zby a.m.objects b.n ()).snd.fst then (b,(1:Int),()) else bif x1.chan then (b,(1:Int),()) else bif !decide (c<(0:Int)) then bif decide (c≥x2) then (b,(2:Int),()) else (Val.mk (2:Int) b.n c,(0:Int),()) else (b,(2:Int),())
noncomputable def zt4 (a:Vm) (b:Val) (c:Int):Bool:=let x1:=(zby a.m.objects b.n ()).fst;
bif b.kind != (2:Int) then true else ziw a.m.objects b.n ()&&bif !(zby a.m.objects b.n ()).snd.fst then true else decide ((0:Int)≤x1∧x1<(a.m.objects.length:Int))
noncomputable def zgq:=hide zt3
noncomputable def zjP:=hide zt4
theorem zwt:zgq=zt3:=zb _
theorem zws:zjP=zt4:=zb _
noncomputable def zGy:Ctr:=zcB [.ptr 120 (.v false (.st .vm)), .v false (.st .val), .v false (.int .i64)] [.own (.st .val), .own (.int .i64)] (uu3 zjP) (uu3 zgq)
noncomputable def zGz:TT:=(T0.a zaD).a (show zi Tryz.prog 241 (orC [.v false (.list (.st .ob)), .v false (.int .i64), .fn0 242] zmd zgX) from (zvI ziv zfj))
theorem zBO:zi Tryz.prog 267 zGy:=zcS Tryz.f267 zGz (congrArg uu3 zws) (congrArg uu3 zwt) 20 42 (fun _=>noA) 0x41042082082080081041041040002041041001042082080000
noncomputable def zEq (p0:Prg) (x0:Vmx) (a:Int) (b:Int) (c:Val):Vmx×Unit:=let x1:=List.getD x0.m.goroutines (Int.toNat a) zan;
let x2:=x1.frames;
let x3:=Int.toNat (IntKind.i64.wrap ((x2.length:Int) - (1:Int)));
let x4:=List.getD x2 x3 zo;
let x5:=x4.regs;
let x6:=(x5.length:Int);
bif decide (b≥(0:Int)) then bif decide (b<x6) then (Vmx.mk (Mac.mk x0.m.objects x0.m.syncs (List.set x0.m.goroutines (Int.toNat a) (Gor.mk x1.state x1.fault x1.allocs (List.set x2 x3 (Frm.mk x4.fn x4.pc (List.set x5 (Int.toNat b) c) x4.dest x4.defers x4.leaving x4.result)))) x0.m.output) x0.events x0.gs,()) else (x0,()) else (x0,())
noncomputable def zEs (p0:Prg) (x0:Vmx) (a:Int) (b:Int) (c:Val):Bool:=let x1:=(↑(List.length (List.getD x0.m.goroutines (Int.toNat a) zan).frames):Int);
let x2:=IntKind.i64.wrap (x1 - (1:Int));
let x3:=(↑(List.length (List.getD (List.getD x0.m.goroutines (Int.toNat a) zan).frames (Int.toNat x2) zo).regs):Int);
decide ((0:Int)≤a∧a<(x0.m.goroutines.length:Int))&&(decide ((0:Int)≤x2∧x2<x1)&&bif decide (b≥(0:Int)) then bif decide (b<x3) then decide ((0:Int)≤b∧b<x3) else true else true)
noncomputable def zwx:=hide zEq
noncomputable def zz1:=hide zEs
theorem zEt:zwx=zEq:=zb _
theorem zEr:zz1=zEs:=zb _
noncomputable def zJP:Ctr:=zqP 120 .prg .vmx [.v false (.int .i64), .v false (.int .i64), .v false (.st .val)] [] (vv3 zz1) (vv3 zwx)
theorem zGB:zi Tryz.prog 200 zJP:=zHu Tryz.f200 T0 (congrArg vv3 zEr) (congrArg vv3 zEt) 7 27 (fun _ _ _=>noA) 0x1082082080001041040000
theorem zzJ {α:Type} {l:List α} (h:0<l.length):l.isEmpty=false:=by
 cases l with
 |nil=>simp at h
 |cons a l=>rfl
theorem zt5 {v:Vm} {k:Nat} {r:Int} (h:zau BIG v.m) (hk:k<v.m.goroutines.length) (hf:0<(gorK v.m k).frames.length):zii v k r=true∧zeC v k r=(zac (gorK v.m k) r,()):=by
 rw [zEi,zEg];unfold zEf zEh zac topK inR;have hl:=(zcD h hk).1;rw [zzJ hf];unfold gorK at hl hf;unfold gorK;simp only [Int.toNat_natCast,zb0 hl hf,zbq hk,zbq (show (v.m.goroutines.getD k zan).frames.length - 1<(v.m.goroutines.getD k zan).frames.length by omega),Bool.true_and,cond_false]
 generalize ((v.m.goroutines.getD k zan).frames.getD ((v.m.goroutines.getD k zan).frames.length - 1) zo).regs=R;rcases zaN r R.length with h1|h1|⟨h1,h2⟩
 ·simp [h1,show ¬(0≤r) by omega]
 ·simp [h1,show ¬r<0 by omega,show ¬(r<(R.length:Int)) by omega]
 ·simp [h1,h2,show ¬r<0 by omega,show ¬(R.length:Int)≤r by omega]
theorem zIs {p:Prg} {x:Vmx} {k:Nat} {r:Int} {v:Val} (h:zau BIG x.m) (hk:k<x.m.goroutines.length) (hf:0<(gorK x.m k).frames.length):zz1 p x k r v=true∧zwx p x k r v=(⟨zai x.m k (zir (gorK x.m k) r v),x.events,x.gs⟩,()):=by
 rw [zEt,zEr];unfold zEq zEs;have hl:=(zcD h hk).1;have hself:=zyG (gorK x.m k) hf;have hw:zai x.m k (gorK x.m k)=x.m:=by
  unfold zai gorK;rw [List.getD_eq_getElem?_getD,zNg hk,Option.getD_some,List.set_getElem_self]
 unfold zir zz2 inR;rw [show x.m.goroutines.getD (Int.toNat (k:Int)) zan=gorK x.m k from rfl];simp only [zb0 hl hf,Int.toNat_natCast,zbq hk,zbq (show (gorK x.m k).frames.length - 1<(gorK x.m k).frames.length by omega),Bool.true_and]
 rw [show (gorK x.m k).frames.getD ((gorK x.m k).frames.length - 1) zo=topK (gorK x.m k) from rfl];rcases zaN r (topK (gorK x.m k)).regs.length with h1|h1|⟨h1,h2⟩
 ·have e1:decide (r≥(0:Int))=false:=decide_eq_false (by omega)
  have e3:decide ((0:Int)≤r∧r<((topK (gorK x.m k)).regs.length:Int))=false:=decide_eq_false (by omega)
  simp only [e1,e3,cond_false,hself,hw];exact ⟨by trivial,by trivial⟩
 ·have e1:decide (r≥(0:Int))=true:=decide_eq_true (by omega)
  have e4:decide (r<((topK (gorK x.m k)).regs.length:Int))=false:=decide_eq_false (by omega)
  have e3:decide ((0:Int)≤r∧r<((topK (gorK x.m k)).regs.length:Int))=false:=decide_eq_false (by omega)
  simp only [e1,e3,e4,cond_false,cond_true,hself,hw];exact ⟨by trivial,by trivial⟩
 ·have e1:decide (r≥(0:Int))=true:=decide_eq_true (by omega)
  have e4:decide (r<((topK (gorK x.m k)).regs.length:Int))=true:=decide_eq_true (by omega)
  have e3:decide ((0:Int)≤r∧r<((topK (gorK x.m k)).regs.length:Int))=true:=decide_eq_true (by omega)
  simp only [e1,e3,e4,cond_true];exact ⟨by trivial,by trivial⟩
theorem zk2 {l:List Ob} {b:Int} (h:za4 l b=true):placeK l b<l.length:=by
 unfold za4 at h;simp only [Bool.and_eq_true,decide_eq_true_eq] at h;exact h.1
theorem zEe {v:Vm} {b:Val} {off:Int} (h:zau BIG v.m) (hs:zbv v.m.objects):zjP v b off=true∧zgq v b off=((zgp v.m b off).1,(zgp v.m b off).2,()):=by
 have hb:=zjv (b:=b.n) hs h.1.1;rw [zwt,zws];unfold zt3 zt4 zgp;rw [zjx hs];simp only [hb.1,hb.2,Int.toNat_natCast,Bool.true_and];cases (b.kind != 2) with
 |true=>exact ⟨by trivial,by trivial⟩
 |false=>
  cases hfd:za4 v.m.objects b.n with
  |false=>exact ⟨by trivial,by trivial⟩
  |true=>
   simp only [cond_false,cond_true,Bool.not_true,zbq (zk2 hfd)];refine ⟨by trivial,?_⟩
   generalize v.m.objects.getD (placeK v.m.objects b.n) dOb=o;cases o.chan with
   |true=>rfl
   |false=>
    simp only [cond_false];unfold inR;rcases zaN off o.cells_.length with h1|h1|⟨h1,h2⟩
    ·simp [h1,show ¬(0≤off) by omega]
    ·simp [h1,show ¬off<0 by omega,show ¬(off<(o.cells_.length:Int)) by omega]
    ·simp [h1,h2,show ¬off<0 by omega,show ¬(o.cells_.length:Int)≤off by omega]
def zrd (m:Mac) (v:Val):Val×Int:=
 bif v.kind==1 then (⟨0,0,0⟩,0) else match zin m.objects v.n with
  |none=>(v,1)
  |some o=>bif v.kind != 2 then (v,1) else (⟨0,(o.cells_.length:Int),0⟩,0)
theorem zh8 (n:Int):zQ n=true∧zM n=(⟨0,n,0⟩,()):=by
 rw [znw,znv];exact ⟨rfl,rfl⟩
theorem zGE {v:Vm} {b:Val} (h:zau BIG v.m) (hs:zbv v.m.objects):zqh v b=true∧zm4 v b=((zrd v.m b).1,(zrd v.m b).2,()):=by
 have hb:=zjv (b:=b.n) hs h.1.1;rw [zz6,zz5];unfold zyJ zyK zrd;rw [zjx hs];simp only [hb.1,hb.2,Int.toNat_natCast,Bool.true_and,(zh8 _).1,(zh8 _).2];cases (b.kind==1) with
 |true=>exact ⟨by trivial,by trivial⟩
 |false=>
  cases hfd:za4 v.m.objects b.n with
  |false=>cases (b.kind != 2)<;>exact ⟨by trivial,by trivial⟩
  |true=>
   simp only [cond_false,cond_true,Bool.not_true,zbq (zk2 hfd)];cases (b.kind != 2)<;>exact ⟨by trivial,by trivial⟩
noncomputable def zte (p0:Prg) (x0:Vmx) (a:Int) (b:Int) (c:List Val) (d:Int):Vmx×Int×Unit:=let x1:=(zao p0 (List.getD x0.m.goroutines (Int.toNat a) zan) b c d).fst;
let x2:=x1.frames;
let x3:=Int.toNat (IntKind.i64.wrap ((x2.length:Int) - (2:Int)));
let x4:=List.getD x2 x3 zo;
bif (zao p0 (List.getD x0.m.goroutines (Int.toNat a) zan) b c d).snd.fst != (0:Int) then (x0,(9:Int),()) else (Vmx.mk (Mac.mk x0.m.objects x0.m.syncs (List.set x0.m.goroutines (Int.toNat a) (Gor.mk x1.state x1.fault x1.allocs (List.set x2 x3 (Frm.mk x4.fn (IntKind.i64.wrap (x4.pc+(1:Int))) x4.regs x4.dest x4.defers x4.leaving x4.result)))) x0.m.output) x0.events x0.gs,(0:Int),())
noncomputable def ztf (p0:Prg) (x0:Vmx) (a:Int) (b:Int) (c:List Val) (d:Int):Bool:=let x1:=(↑(List.length (zao p0 (List.getD x0.m.goroutines (Int.toNat a) zan) b c d).fst.frames):Int);
let x2:=IntKind.i64.wrap (x1 - (2:Int));
decide ((0:Int)≤a∧a<(x0.m.goroutines.length:Int))&&(zdd p0 (List.getD x0.m.goroutines (Int.toNat a) zan) b c d&&bif (zao p0 (List.getD x0.m.goroutines (Int.toNat a) zan) b c d).snd.fst != (0:Int) then true else decide ((0:Int)≤x2∧x2<x1))
noncomputable def zhI:=hide zte
noncomputable def zkV:=hide ztf
theorem zuZ:zhI=zte:=zb _
theorem zuY:zkV=ztf:=zb _
noncomputable def zFB:Ctr:=shC (.fn0 0::[.v false (.int .i64), .v false (.int .i64), .v true (.list (.st .val)), .v false (.int .i64)]) (zqP 120 .prg .vmx [.v false (.int .i64), .v false (.int .i64), .v true (.list (.st .val)), .v false (.int .i64)] [.own (.int .i64)] (vv4 zkV) (vv4 zhI))
noncomputable def zFC:TT:=T0.a zij
theorem zAO:zi Tryz.prog 222 zFB:=zJR (zHu Tryz.f222 zFC (congrArg vv4 zuY) (congrArg vv4 zuZ) 9 54 (fun _ _ _=>noA) 0x1183000000)
noncomputable def zAI (p0:Prg) (x0:Vmx) (a:Int) (b:Ins) (i1:(List Val)×Int×Unit):Snap:=⟨[(0, .ptr 0 0),(1,vI a),(6, .ptr 20 0),(8, .lw 22 22 [] 3 (List.length (i1.1))),(24, .lw 6 5 [(Int.toNat b.b,0)] 1 (List.length (List.getD p0.layouts (Int.toNat b.b) []))),(25,vI (↑(List.length (List.getD p0.layouts (Int.toNat b.b) [])))),(26,vI (i1.2.1))],[(0,bC 120 [.lw 2 2 [] 4 p0.funcs.length, .lw 4 4 [] 2 p0.globals.length, .lw 6 6 [] 1 p0.layouts.length,vI p0.main, .lw 8 8 [] 10 x0.m.objects.length, .lw 10 10 [] 6 x0.m.syncs.length, .lw 12 12 [] 4 x0.m.goroutines.length, .lw 14 14 [] 1 x0.m.output.length, .lw 16 16 [] 9 x0.events.length, .lw 18 18 [] 1 x0.gs.length]),(1,bV),(2,bT (Bool.rec .all .none (Bool.true||Bool.false)) (.st .fnc) p0.funcs 1),(3,bV),(4,bT (Bool.rec .all .none (Bool.true||Bool.false)) (.st .glb) p0.globals 3),(5,bV),(6,bT (Bool.rec .all .none (Bool.true||Bool.false)) (RT.list (RT.int IntKind.i64)) p0.layouts 5),(7,bV),(8,bT (Bool.rec .all .none (Bool.false||Bool.false)) (.st .ob) x0.m.objects 7),(9,bV),(10,bT (Bool.rec .all .none (Bool.false||Bool.false)) (.st .syn) x0.m.syncs 9),(11,bV),(12,bT (Bool.rec .all .none (Bool.false||Bool.false)) (.st .gor) x0.m.goroutines 11),(13,bV),(14,bT (Bool.rec .all .none (Bool.false||Bool.false)) (RT.int IntKind.i64) x0.m.output 13),(15,bV),(16,bT (Bool.rec .all .none (Bool.false||Bool.false)) (.st .ev) x0.events 15),(17,bV),(18,bT (Bool.rec .all .none (Bool.false||Bool.false)) (RT.int IntKind.i64) x0.gs 17),(20,bC 68 [vI 0,vI 0,vI 0]),(21,bV),(22,bT .all (.st .val) (i1.1) 21)],23⟩
noncomputable def zuU (p0:Prg) (x0:Vmx) (a:Int) (b:Ins) (u9:(List Val)×Unit):Snap:=⟨[(0, .ptr 0 0),(1,vI a),(6, .ptr 20 0),(8, .lw 24 24 [] 3 (List.length (u9.1)))],[(0,bC 120 [.lw 2 2 [] 4 p0.funcs.length, .lw 4 4 [] 2 p0.globals.length, .lw 6 6 [] 1 p0.layouts.length,vI p0.main, .lw 8 8 [] 10 x0.m.objects.length, .lw 10 10 [] 6 x0.m.syncs.length, .lw 12 12 [] 4 x0.m.goroutines.length, .lw 14 14 [] 1 x0.m.output.length, .lw 16 16 [] 9 x0.events.length, .lw 18 18 [] 1 x0.gs.length]),(1,bV),(2,bT (Bool.rec .all .none (Bool.true||Bool.false)) (.st .fnc) p0.funcs 1),(3,bV),(4,bT (Bool.rec .all .none (Bool.true||Bool.false)) (.st .glb) p0.globals 3),(5,bV),(6,bT (Bool.rec .all .none (Bool.true||Bool.false)) (RT.list (RT.int IntKind.i64)) p0.layouts 5),(7,bV),(8,bT (Bool.rec .all .none (Bool.false||Bool.false)) (.st .ob) x0.m.objects 7),(9,bV),(10,bT (Bool.rec .all .none (Bool.false||Bool.false)) (.st .syn) x0.m.syncs 9),(11,bV),(12,bT (Bool.rec .all .none (Bool.false||Bool.false)) (.st .gor) x0.m.goroutines 11),(13,bV),(14,bT (Bool.rec .all .none (Bool.false||Bool.false)) (RT.int IntKind.i64) x0.m.output 13),(15,bV),(16,bT (Bool.rec .all .none (Bool.false||Bool.false)) (.st .ev) x0.events 15),(17,bV),(18,bT (Bool.rec .all .none (Bool.false||Bool.false)) (RT.int IntKind.i64) x0.gs 17),(20,bC 68 [vI 0,vI 0,vI 0]),(23,bV),(24,bT .all (.st .val) (u9.1) 23)],25⟩
noncomputable def ze6 (p0:Prg) (x0:Vmx) (a:Int) (b:Ins) (i1:(List Val)×Int×Unit):((List Val)×Int×Unit)⊕((List Val)×Unit):=let x1:=i1.fst;
let x2:=i1.snd.fst;
let x3:=(↑(List.length (List.getD p0.layouts (Int.toNat b.b) [])):Int);
bif decide (x2<x3) then bif List.getD (List.getD p0.layouts (Int.toNat b.b) []) (Int.toNat x2) (0:Int)==(1:Int) then Sum.inl (x1++[Val.mk (1:Int) (0:Int) (0:Int)],IntKind.i64.wrap (x2+(1:Int)),()) else Sum.inl (x1++[(zM (0:Int)).fst],IntKind.i64.wrap (x2+(1:Int)),()) else Sum.inr (x1,())
noncomputable def zgZ (p0:Prg) (x0:Vmx) (a:Int) (b:Ins) (i1:(List Val)×Int×Unit):Bool:=let x1:=i1.snd.fst;
let x2:=(↑(List.length (List.getD p0.layouts (Int.toNat b.b) [])):Int);
let x3:=(i1.fst.length+(1:Nat))*(24:Nat);
let x4:=decide (x3≤(140737488355328:Nat));
bif decide (x1<x2) then decide ((0:Int)≤x1∧x1<x2)&&bif List.getD (List.getD p0.layouts (Int.toNat b.b) []) (Int.toNat x1) (0:Int)==(1:Int) then x4 else zQ (0:Int)&&x4 else true
noncomputable def zoy (p0:Prg) (x0:Vmx) (a:Int) (b:Ins):Vmx×Val×Int×Unit:=let x1:=List.getD x0.m.goroutines (Int.toNat a) zan;
let x2:=x1.allocs;
let x3:=(zab (zeC (Vm.mk p0 x0.m x0.events x0.gs) a b.b).fst).fst;
let x4:=decide (x2≥(200:Int));
let x5:= !decide (x2<(0:Int));
let x6:=IntKind.i64.wrap (IntKind.i64.wrap ((1:Int)+a)+IntKind.i64.wrap ((8:Int)*x2));
let x7:=List.set x0.m.goroutines (Int.toNat a) (Gor.mk x1.state x1.fault (IntKind.i64.wrap (x2+(1:Int))) x1.frames);
let x8:=Int.toNat (zdq x0.m.objects x6 ()).fst;
let x9:=List.drop x8 x0.m.objects;
let x10:=List.take x8 x0.m.objects;
bif b.op==(21:Int) then bif x5 then bif x4 then (x0,Val.mk (0:Int) (0:Int) (0:Int),(9:Int),()) else (Vmx.mk (Mac.mk (x10++[Ob.mk x6 (zd (ze6 p0 x0 a b) ([],()) X_N ([],(0:Int),())).fst false (0:Int) [] false (0:Int) (0:Int) [] []]++x9) x0.m.syncs x7 x0.m.output) x0.events x0.gs,Val.mk (2:Int) x6 (0:Int),(0:Int),()) else (x0,Val.mk (0:Int) (0:Int) (0:Int),(9:Int),()) else bif b.op==(24:Int) then bif x5 then bif x4 then (x0,Val.mk (0:Int) (0:Int) (0:Int),(9:Int),()) else (Vmx.mk (Mac.mk (x10++[Ob.mk x6 ([(zM b.b).fst]++(zgu (Vm.mk p0 x0.m x0.events x0.gs) a (IntKind.i64.wrap (b.a+(1:Int))) b.c).fst) false (0:Int) [] false (0:Int) (0:Int) [] []]++x9) x0.m.syncs x7 x0.m.output) x0.events x0.gs,Val.mk (2:Int) x6 (0:Int),(0:Int),()) else (x0,Val.mk (0:Int) (0:Int) (0:Int),(9:Int),()) else bif !decide (x3<(0:Int)) then bif decide (x3>(64:Int)) then (x0,Val.mk (0:Int) (0:Int) (0:Int),(7:Int),()) else bif b.op==(23:Int) then bif x5 then bif x4 then (x0,Val.mk (0:Int) (0:Int) (0:Int),(9:Int),()) else (Vmx.mk (Mac.mk (x10++[Ob.mk x6 [] true x3 [] false (0:Int) (0:Int) [] []]++x9) x0.m.syncs x7 x0.m.output) x0.events x0.gs,Val.mk (2:Int) x6 (0:Int),(0:Int),()) else (x0,Val.mk (0:Int) (0:Int) (0:Int),(9:Int),()) else bif x5 then bif x4 then (x0,Val.mk (0:Int) (0:Int) (0:Int),(9:Int),()) else (Vmx.mk (Mac.mk (x10++[Ob.mk x6 (List.replicate (Int.toNat x3) (Val.mk (0:Int) (0:Int) (0:Int))) false (0:Int) [] false (0:Int) (0:Int) [] []]++x9) x0.m.syncs x7 x0.m.output) x0.events x0.gs,Val.mk (2:Int) x6 (0:Int),(0:Int),()) else (x0,Val.mk (0:Int) (0:Int) (0:Int),(9:Int),()) else (x0,Val.mk (0:Int) (0:Int) (0:Int),(7:Int),())
noncomputable def zoz (p0:Prg) (x0:Vmx) (a:Int) (b:Ins):Bool:=let x1:=Vm.mk p0 x0.m x0.events x0.gs;
let x2:=(List.getD x0.m.goroutines (Int.toNat a) zan).allocs;
let x3:=(zeC x1 a b.b).fst;
let x4:=IntKind.i64.wrap (b.a+(1:Int));
let x5:=(zab x3).fst;
let x6:=(x0.m.objects.length+(1:Nat))*(144:Nat);
let x7:=(↑(24:Nat):Int)*x5;
let x8:=IntKind.i64.wrap (IntKind.i64.wrap ((1:Int)+a)+IntKind.i64.wrap ((8:Int)*x2));
let x9:=(zdq x0.m.objects x8 ()).fst;
let x10:=Int.toNat x9;
let x11:=((1:Nat)+List.length (zgu x1 a x4 b.c).fst)*(24:Nat);
let x12:=decide ((0:Int)≤a∧a<(x0.m.goroutines.length:Int))&&bif !decide (x2<(0:Int)) then bif decide (x2≥(200:Int)) then true else zit x0.m.objects x8 ()&&decide ((0:Int)≤x9∧x10≤x0.m.objects.length∧x6≤(140737488355328:Nat)) else true;
bif b.op==(21:Int) then decide ((0:Int)≤b.b∧b.b<(p0.layouts.length:Int))&&(X_wok (ze6 p0 x0 a b) (zgZ p0 x0 a b) X_N ([],(0:Int),())&&x12) else bif b.op==(24:Int) then zQ b.b&&(zgt x1 a x4 b.c&&(decide (x11≤(140737488355328:Nat))&&x12)) else zii x1 a b.b&&(zbc x3&&bif !decide (x5<(0:Int)) then bif decide (x5>(64:Int)) then true else bif b.op==(23:Int) then x12 else decide (x5=x5∧(0:Int)≤x5∧x7≤(281474976710656:Int))&&x12 else true)
noncomputable def za1:=hide zoy
noncomputable def zfp:=hide zoz
theorem zry:za1=zoy:=zb _
theorem zrx:zfp=zoz:=zb _
noncomputable def zCB:Ctr:=zqP 120 .prg .vmx [.v false (.int .i64), .v false (.st .ins)] [.own (.st .val), .own (.int .i64)] (vv2 zfp) (vv2 za1)
noncomputable def zCA (p0:Prg) (x0:Vmx) (a:Int) (b:Ins):Nat→ze5:=fun q=>match q with|1=> .mk [⟨8,none,(.list (.st .val))⟩,⟨26,none,(.int .i64)⟩] (zAI p0 x0 a b) [⟨.exit 1,[⟨8,none,(.list (.st .val))⟩],zuU p0 x0 a b⟩] (ze6 p0 x0 a b) (zgZ p0 x0 a b) (H 0x1000000) (fun (_:(List Val)×Int×Unit)=>fun _=> .no)|_=> .no
noncomputable def zCC:TT:=((((((T0.a zDb).a zeh).a zdM).a zob).a zuG).a zaD).a (show zi Tryz.prog 241 (orC [.v false (.list (.st .ob)), .v false (.int .i64), .fn0 242] zmd zgX) from (zvI ziv zfj))
theorem zxK:zi Tryz.prog 268 zCB:=zHu Tryz.f268 zCC (congrArg vv2 zrx) (congrArg vv2 zry) 7 100 (vv2 zCA) 0x1041081042005140081000041080145002040000002040000041080145002040000000041080145002040000000 (fun p0 x0 zz=>zC [(1,(zaP 0 (bd Tryz.f268)))] (by kernel_rfl) ⟨fun _=>⟨by kernel_rfl,zm (by kernel_rfl)⟩,trivial⟩)
noncomputable def zmh (p0:Prg) (x0:Vmx) (a:Int) (b:Ins):Vmx×Val×Int×Unit:=let x1:=Vm.mk p0 x0.m x0.events x0.gs;
let x2:=(zeC x1 a b.b).fst;
let x3:=(zeC x1 a b.c).fst;
let x4:=IntKind.i64.wrap (b.b+(1:Int));
let x5:=x2.off;
let x6:=(zeC x1 a (0:Int)).fst;
let x7:=x6.n;
let x8:=(zab x2).fst;
let x9:=x6.kind;
let x10:=(zab x3).fst;
let x11:=x10==(0:Int);
let x12:=List.getD x0.m.objects (Int.toNat (zby x0.m.objects x7 ()).fst) dOb;
let x13:=x12.cells_;
let x14:=(x13.length:Int);
let x15:=Val.mk x9 x7 x4;
let x16:=x2.kind==x3.kind&&(x2.n==x3.n&&(x5==x3.off&&true));
bif b.op==(1:Int) then (x0,(zM b.b).fst,(0:Int),()) else bif b.op==(2:Int) then (x0,Val.mk (1:Int) (0:Int) (0:Int),(0:Int),()) else bif b.op==(3:Int) then (x0,x2,(0:Int),()) else bif b.op==(9:Int) then (x0,(zM (IntKind.i64.wrap ((0:Int) - x8))).fst,(0:Int),()) else bif b.op==(10:Int) then (x0,(zM (IntKind.i64.wrap ((1:Int) - x8))).fst,(0:Int),()) else bif b.op==(15:Int) then (x0,(zm4 x1 x2).fst,(zm4 x1 x2).snd.fst,()) else bif b.op==(18:Int) then (x0,Val.mk (2:Int) (0:Int) b.b,(0:Int),()) else bif b.op==(19:Int) then (x0,(zgq x1 x2 (IntKind.i64.wrap (x5+b.c))).fst,(zgq x1 x2 (IntKind.i64.wrap (x5+b.c))).snd.fst,()) else bif b.op==(20:Int) then (x0,(zgq x1 x2 x10).fst,(zgq x1 x2 x10).snd.fst,()) else bif b.op==(21:Int) then ((za1 p0 x0 a b).fst,(za1 p0 x0 a b).snd.fst,(za1 p0 x0 a b).snd.snd.fst,()) else bif b.op==(22:Int) then ((za1 p0 x0 a b).fst,(za1 p0 x0 a b).snd.fst,(za1 p0 x0 a b).snd.snd.fst,()) else bif b.op==(23:Int) then ((za1 p0 x0 a b).fst,(za1 p0 x0 a b).snd.fst,(za1 p0 x0 a b).snd.snd.fst,()) else bif b.op==(24:Int) then ((za1 p0 x0 a b).fst,(za1 p0 x0 a b).snd.fst,(za1 p0 x0 a b).snd.snd.fst,()) else bif b.op==(25:Int) then bif x9 != (2:Int) then (x0,x15,(1:Int),()) else bif !(zby x0.m.objects x7 ()).snd.fst then (x0,x15,(1:Int),()) else bif x12.chan then (x0,x15,(1:Int),()) else bif !decide (x4<(0:Int)) then bif decide (x4≥x14) then (x0,x15,(2:Int),()) else (x0,List.getD x13 (Int.toNat x4) zjY,(0:Int),()) else (x0,x15,(2:Int),()) else bif decide (b.op=(4:Int)) then (x0,(zM (IntKind.i64.wrap (x8+x10))).fst,(0:Int),()) else bif decide (b.op=(5:Int)) then (x0,(zM (IntKind.i64.wrap (x8 - x10))).fst,(0:Int),()) else bif decide (b.op=(6:Int)) then (x0,(zM (IntKind.i64.wrap (x8*x10))).fst,(0:Int),()) else bif decide (b.op=(7:Int)) then bif x11 then (x0,Val.mk (0:Int) (0:Int) (0:Int),(3:Int),()) else (x0,(zM (IntKind.i64.wrap (Int.tdiv x8 x10))).fst,(0:Int),()) else bif decide (b.op=(8:Int)) then bif x11 then (x0,Val.mk (0:Int) (0:Int) (0:Int),(3:Int),()) else (x0,(zM (Int.tmod x8 x10)).fst,(0:Int),()) else bif decide (b.op=(11:Int)) then (x0,(zb9 x16).fst,(0:Int),()) else bif decide (b.op=(12:Int)) then (x0,(zb9 !x16).fst,(0:Int),()) else bif decide (b.op=(13:Int)) then (x0,(zb9 (decide (x8<x10))).fst,(0:Int),()) else (x0,(zb9 (decide (x8≤x10))).fst,(0:Int),())
noncomputable def zmi (p0:Prg) (x0:Vmx) (a:Int) (b:Ins):Bool:=let x1:=Vm.mk p0 x0.m x0.events x0.gs;
let x2:=(zeC x1 a b.b).fst;
let x3:=(zeC x1 a b.c).fst;
let x4:=zbc x3;
let x5:=zbc x2;
let x6:=x2.off;
let x7:=IntKind.i64.wrap (b.b+(1:Int));
let x8:=(zeC x1 a (0:Int)).fst;
let x9:=x8.n;
let x10:=(zab x2).fst;
let x11:=(zab x3).fst;
let x12:=x11==(0:Int);
let x13:=(zby x0.m.objects x9 ()).fst;
let x14:=List.getD x0.m.objects (Int.toNat x13) dOb;
let x15:=(x14.cells_.length:Int);
let x16:=decide (x11≠(0:Int));
let x17:=x2.kind==x3.kind&&(x2.n==x3.n&&(x6==x3.off&&true));
zii x1 a b.b&&(zii x1 a b.c&&bif b.op==(1:Int) then zQ b.b else bif b.op==(2:Int) then true else bif b.op==(3:Int) then true else bif b.op==(9:Int) then x5&&zQ (IntKind.i64.wrap ((0:Int) - x10)) else bif b.op==(10:Int) then x5&&zQ (IntKind.i64.wrap ((1:Int) - x10)) else bif b.op==(15:Int) then zqh x1 x2 else bif b.op==(18:Int) then true else bif b.op==(19:Int) then zjP x1 x2 (IntKind.i64.wrap (x6+b.c)) else bif b.op==(20:Int) then x4&&zjP x1 x2 x11 else bif b.op==(21:Int) then zfp p0 x0 a b else bif b.op==(22:Int) then zfp p0 x0 a b else bif b.op==(23:Int) then zfp p0 x0 a b else bif b.op==(24:Int) then zfp p0 x0 a b else bif b.op==(25:Int) then zii x1 a (0:Int)&&bif x8.kind != (2:Int) then true else ziw x0.m.objects x9 ()&&bif !(zby x0.m.objects x9 ()).snd.fst then true else decide ((0:Int)≤x13∧x13<(x0.m.objects.length:Int))&&bif x14.chan then true else bif !decide (x7<(0:Int)) then bif decide (x7≥x15) then true else decide ((0:Int)≤x7∧x7<x15) else true else bif decide (b.op=(4:Int)) then x5&&(x4&&zQ (IntKind.i64.wrap (x10+x11))) else bif decide (b.op=(5:Int)) then x5&&(x4&&zQ (IntKind.i64.wrap (x10 - x11))) else bif decide (b.op=(6:Int)) then x5&&(x4&&zQ (IntKind.i64.wrap (x10*x11))) else bif decide (b.op=(7:Int)) then x4&&bif x12 then true else x5&&(x16&&zQ (IntKind.i64.wrap (Int.tdiv x10 x11))) else bif decide (b.op=(8:Int)) then x4&&bif x12 then true else x5&&(x16&&zQ (Int.tmod x10 x11)) else bif decide (b.op=(11:Int)) then zb8 x17 else bif decide (b.op=(12:Int)) then zb8 !x17 else bif decide (b.op=(13:Int)) then x5&&(x4&&zb8 (decide (x10<x11))) else decide (b.op=(14:Int))&&(x5&&(x4&&zb8 (decide (x10≤x11)))))
noncomputable def zbz:=hide zmh
noncomputable def zjw:=hide zmi
theorem zox:zbz=zmh:=zb _
theorem zow:zjw=zmi:=zb _
noncomputable def zAF:Ctr:=zqP 120 .prg .vmx [.v false (.int .i64), .v false (.st .ins)] [.own (.st .val), .own (.int .i64)] (vv2 zjw) (vv2 zbz)
noncomputable def zAG:TT:=((((((((T0.a zeh).a zdM).a zqp).a zob).a zaD).a (show zi Tryz.prog 241 (orC [.v false (.list (.st .ob)), .v false (.int .i64), .fn0 242] zmd zgX) from (zvI ziv zfj))).a zEF).a zBO).a zxK
theorem zuT:zi Tryz.prog 225 zAF:=zHu Tryz.f225 zAG (congrArg vv2 zow) (congrArg vv2 zox) 7 124 (fun _ _ _=>noA) 0x40000000000000000000005000000000140000000000000000000000001041082082082082001002041041041040040081041040041042082080001000000000040001000040000000000000000000000000000000
noncomputable def zue (a:Prg) (b:Mac) (i0:Int×(List Ob)×Unit):Snap:=⟨[(2, .ptr 15 0),(3, .ptr 16 0),(5, .ptr 19 0),(20, .lw 8 8 [] 10 b.objects.length),(21,vI (↑b.objects.length)),(22,vI (i0.1))],[(1,bV),(2,bT .none (.st .fnc) a.funcs 1),(3,bV),(4,bT .none (.st .glb) a.globals 3),(5,bV),(6,bT .none (RT.list (RT.int IntKind.i64)) a.layouts 5),(7,bV),(8,bT .none (.st .ob) b.objects 7),(9,bV),(10,bT Ow.bor (.st .syn) b.syncs 9),(11,bV),(12,bT Ow.bor (.st .gor) b.goroutines 11),(13,bV),(14,bT Ow.bor (RT.int IntKind.i64) b.output 13),(15,bC 32 [.lw 2 2 [] 4 a.funcs.length, .lw 4 4 [] 2 a.globals.length, .lw 6 6 [] 1 a.layouts.length,vI a.main]),(16,bC 38 [.lw 8 8 [] 10 b.objects.length, .lw 10 10 [] 6 b.syncs.length, .lw 12 12 [] 4 b.goroutines.length, .lw 14 14 [] 1 b.output.length]),(17,bV),(18,bT .all (RT.int IntKind.i64) b.output 17),(19,bC 38 [.lw 21 21 [] 10 (List.length (i0.2.1)),vN,vN, .lw 18 18 [] 1 b.output.length]),(20,bV),(21,bT .all (.st .ob) (i0.2.1) 20)],22⟩
noncomputable def zqu (a:Prg) (b:Mac) (u9:(List Ob)×Unit):Snap:=⟨[(2, .ptr 15 0),(3, .ptr 16 0),(5, .ptr 19 0)],[(1,bV),(2,bT .none (.st .fnc) a.funcs 1),(3,bV),(4,bT .none (.st .glb) a.globals 3),(5,bV),(6,bT .none (RT.list (RT.int IntKind.i64)) a.layouts 5),(7,bV),(8,bT .none (.st .ob) b.objects 7),(9,bV),(10,bT Ow.bor (.st .syn) b.syncs 9),(11,bV),(12,bT Ow.bor (.st .gor) b.goroutines 11),(13,bV),(14,bT Ow.bor (RT.int IntKind.i64) b.output 13),(15,bC 32 [.lw 2 2 [] 4 a.funcs.length, .lw 4 4 [] 2 a.globals.length, .lw 6 6 [] 1 a.layouts.length,vI a.main]),(16,bC 38 [.lw 8 8 [] 10 b.objects.length, .lw 10 10 [] 6 b.syncs.length, .lw 12 12 [] 4 b.goroutines.length, .lw 14 14 [] 1 b.output.length]),(17,bV),(18,bT .all (RT.int IntKind.i64) b.output 17),(19,bC 38 [.lw 23 23 [] 10 (List.length (u9.1)),vN,vN, .lw 18 18 [] 1 b.output.length]),(22,bV),(23,bT .all (.st .ob) (u9.1) 22)],24⟩
noncomputable def zr (a:Prg) (b:Mac) (i0:Int×(List Ob)×Unit):(Int×(List Ob)×Unit)⊕((List Ob)×Unit):=let x1:=i0.fst;
bif decide (x1<(b.objects.length:Int)) then Sum.inl (IntKind.i64.wrap (x1+(1:Int)),i0.snd.fst++[List.getD b.objects (Int.toNat x1) dOb],()) else Sum.inr (i0.snd.fst,())
noncomputable def zdN (a:Prg) (b:Mac) (i0:Int×(List Ob)×Unit):Bool:=let x1:=i0.fst;
let x2:=List.getD b.objects (Int.toNat x1) dOb;
let x3:=x2.cells_.length*(24:Nat);
let x4:=x2.senders.length*(40:Nat);
let x5:=x2.queue.length*(24:Nat);
let x6:=x2.receivers.length*(40:Nat);
let x7:=(i0.snd.fst.length+(1:Nat))*(144:Nat);
bif decide (x1<(b.objects.length:Int)) then decide ((0:Int)≤x1∧x1<(b.objects.length:Int))&&(decide (x3≤(140737488355328:Nat))&&(decide (x5≤(140737488355328:Nat))&&(decide (x4≤(140737488355328:Nat))&&(decide (x6≤(140737488355328:Nat))&&decide (x7≤(140737488355328:Nat)))))) else true
noncomputable def zuf (a:Prg) (b:Mac) (i2:Int×(List Syn)×Unit):Snap:=⟨[(2, .ptr 15 0),(3, .ptr 16 0),(5, .ptr 19 0),(50, .lw 10 10 [] 6 b.syncs.length),(51,vI (↑b.syncs.length)),(52,vI (i2.1))],[(1,bV),(2,bT .none (.st .fnc) a.funcs 1),(3,bV),(4,bT .none (.st .glb) a.globals 3),(5,bV),(6,bT .none (RT.list (RT.int IntKind.i64)) a.layouts 5),(7,bV),(8,bT .none (.st .ob) b.objects 7),(9,bV),(10,bT Ow.bor (.st .syn) b.syncs 9),(11,bV),(12,bT Ow.bor (.st .gor) b.goroutines 11),(13,bV),(14,bT Ow.bor (RT.int IntKind.i64) b.output 13),(15,bC 32 [.lw 2 2 [] 4 a.funcs.length, .lw 4 4 [] 2 a.globals.length, .lw 6 6 [] 1 a.layouts.length,vI a.main]),(16,bC 38 [.lw 8 8 [] 10 b.objects.length, .lw 10 10 [] 6 b.syncs.length, .lw 12 12 [] 4 b.goroutines.length, .lw 14 14 [] 1 b.output.length]),(17,bV),(18,bT .all (RT.int IntKind.i64) b.output 17),(19,bC 38 [.lw 23 23 [] 10 (List.length (zd (zr a b) ([],()) X_N (0,[],())).fst), .lw 25 25 [] 6 (List.length (i2.2.1)),vN, .lw 18 18 [] 1 b.output.length]),(22,bV),(23,bT .all (.st .ob) (zd (zr a b) ([],()) X_N (0,[],())).fst 22),(24,bV),(25,bT .all (.st .syn) (i2.2.1) 24)],26⟩
noncomputable def zqv (a:Prg) (b:Mac) (u9:(List Syn)×Unit):Snap:=⟨[(2, .ptr 15 0),(3, .ptr 16 0),(5, .ptr 19 0)],[(1,bV),(2,bT .none (.st .fnc) a.funcs 1),(3,bV),(4,bT .none (.st .glb) a.globals 3),(5,bV),(6,bT .none (RT.list (RT.int IntKind.i64)) a.layouts 5),(7,bV),(8,bT .none (.st .ob) b.objects 7),(9,bV),(10,bT Ow.bor (.st .syn) b.syncs 9),(11,bV),(12,bT Ow.bor (.st .gor) b.goroutines 11),(13,bV),(14,bT Ow.bor (RT.int IntKind.i64) b.output 13),(15,bC 32 [.lw 2 2 [] 4 a.funcs.length, .lw 4 4 [] 2 a.globals.length, .lw 6 6 [] 1 a.layouts.length,vI a.main]),(16,bC 38 [.lw 8 8 [] 10 b.objects.length, .lw 10 10 [] 6 b.syncs.length, .lw 12 12 [] 4 b.goroutines.length, .lw 14 14 [] 1 b.output.length]),(17,bV),(18,bT .all (RT.int IntKind.i64) b.output 17),(19,bC 38 [.lw 23 23 [] 10 (List.length (zd (zr a b) ([],()) X_N (0,[],())).fst), .lw 27 27 [] 6 (List.length (u9.1)),vN, .lw 18 18 [] 1 b.output.length]),(22,bV),(23,bT .all (.st .ob) (zd (zr a b) ([],()) X_N (0,[],())).fst 22),(26,bV),(27,bT .all (.st .syn) (u9.1) 26)],28⟩
noncomputable def zD (a:Prg) (b:Mac) (i2:Int×(List Syn)×Unit):(Int×(List Syn)×Unit)⊕((List Syn)×Unit):=let x1:=i2.fst;
bif decide (x1<(b.syncs.length:Int)) then Sum.inl (IntKind.i64.wrap (x1+(1:Int)),i2.snd.fst++[List.getD b.syncs (Int.toNat x1) zzk],()) else Sum.inr (i2.snd.fst,())
noncomputable def zdO (a:Prg) (b:Mac) (i2:Int×(List Syn)×Unit):Bool:=let x1:=i2.fst;
let x2:=List.length (List.getD b.syncs (Int.toNat x1) zzk).readers*(8:Nat);
let x3:=(i2.snd.fst.length+(1:Nat))*(64:Nat);
bif decide (x1<(b.syncs.length:Int)) then decide ((0:Int)≤x1∧x1<(b.syncs.length:Int))&&(decide (x2≤(140737488355328:Nat))&&decide (x3≤(140737488355328:Nat))) else true
noncomputable def zug (a:Prg) (b:Mac) (i4:Int×(List Gor)×Unit):Snap:=⟨[(2, .ptr 15 0),(5, .ptr 19 0),(68, .lw 12 12 [] 4 b.goroutines.length),(69,vI (↑b.goroutines.length)),(70,vI (i4.1))],[(1,bV),(2,bT .none (.st .fnc) a.funcs 1),(3,bV),(4,bT .none (.st .glb) a.globals 3),(5,bV),(6,bT .none (RT.list (RT.int IntKind.i64)) a.layouts 5),(11,bV),(12,bT Ow.bor (.st .gor) b.goroutines 11),(15,bC 32 [.lw 2 2 [] 4 a.funcs.length, .lw 4 4 [] 2 a.globals.length, .lw 6 6 [] 1 a.layouts.length,vI a.main]),(17,bV),(18,bT .all (RT.int IntKind.i64) b.output 17),(19,bC 38 [.lw 23 23 [] 10 (List.length (zd (zr a b) ([],()) X_N (0,[],())).fst), .lw 27 27 [] 6 (List.length (zd (zD a b) ([],()) X_N (0,[],())).fst), .lw 29 29 [] 4 (List.length (i4.2.1)), .lw 18 18 [] 1 b.output.length]),(22,bV),(23,bT .all (.st .ob) (zd (zr a b) ([],()) X_N (0,[],())).fst 22),(26,bV),(27,bT .all (.st .syn) (zd (zD a b) ([],()) X_N (0,[],())).fst 26),(28,bV),(29,bT .all (.st .gor) (i4.2.1) 28)],30⟩
noncomputable def zuh (a:Prg) (b:Mac) (i4:Int×(List Gor)×Unit) (i6:Int×(List Frm)×Unit):Snap:=⟨[(2, .ptr 15 0),(5, .ptr 19 0),(11, .ptr 30 0),(68, .lw 12 12 [] 4 b.goroutines.length),(69,vI (↑b.goroutines.length)),(70,vI i4.fst),(80,vI (↑(List.length (List.getD b.goroutines (Int.toNat i4.fst) zan).frames))),(81,vI (i6.1))],[(1,bV),(2,bT .none (.st .fnc) a.funcs 1),(3,bV),(4,bT .none (.st .glb) a.globals 3),(5,bV),(6,bT .none (RT.list (RT.int IntKind.i64)) a.layouts 5),(11,bV),(12,bT Ow.bor (.st .gor) b.goroutines 11),(15,bC 32 [.lw 2 2 [] 4 a.funcs.length, .lw 4 4 [] 2 a.globals.length, .lw 6 6 [] 1 a.layouts.length,vI a.main]),(17,bV),(18,bT .all (RT.int IntKind.i64) b.output 17),(19,bC 38 [.lw 23 23 [] 10 (List.length (zd (zr a b) ([],()) X_N (0,[],())).fst), .lw 27 27 [] 6 (List.length (zd (zD a b) ([],()) X_N (0,[],())).fst), .lw 29 29 [] 4 i4.snd.fst.length, .lw 18 18 [] 1 b.output.length]),(22,bV),(23,bT .all (.st .ob) (zd (zr a b) ([],()) X_N (0,[],())).fst 22),(26,bV),(27,bT .all (.st .syn) (zd (zD a b) ([],()) X_N (0,[],())).fst 26),(28,bV),(29,bT .all (.st .gor) i4.snd.fst 28),(30,bC 63 [vI ((List.getD b.goroutines (Int.toNat i4.fst) zan).state),vI ((List.getD b.goroutines (Int.toNat i4.fst) zan).fault),vI ((List.getD b.goroutines (Int.toNat i4.fst) zan).allocs), .lw 34 34 [] 9 (List.length (i6.2.1))]),(33,bV),(34,bT (Ow.dc (Int.toNat (i6.1)) []) (.st .frm) (i6.2.1) 33)],35⟩
noncomputable def zui (a:Prg) (b:Mac) (i4:Int×(List Gor)×Unit) (i6:Int×(List Frm)×Unit) (i8:Int×(List Frm)×Unit):Snap:=⟨[(2, .ptr 15 0),(5, .ptr 19 0),(11, .ptr 30 0),(13, .ep 42 42 [] 9 (Int.toNat i6.fst) 0),(68, .lw 12 12 [] 4 b.goroutines.length),(69,vI (↑b.goroutines.length)),(70,vI i4.fst),(80,vI (↑(List.length (List.getD b.goroutines (Int.toNat i4.fst) zan).frames))),(81,vI i6.fst),(108,vI (↑(List.length (List.getD (List.set (List.set i6.snd.fst (Int.toNat i6.fst) (List.getD i6.snd.fst (Int.toNat i6.fst) zo)) (Int.toNat i6.fst) (List.getD (List.set i6.snd.fst (Int.toNat i6.fst) (List.getD i6.snd.fst (Int.toNat i6.fst) zo)) (Int.toNat i6.fst) zo)) (Int.toNat i6.fst) zo).defers))),(109,vI (i8.1))],[(1,bV),(2,bT .none (.st .fnc) a.funcs 1),(3,bV),(4,bT .none (.st .glb) a.globals 3),(5,bV),(6,bT .none (RT.list (RT.int IntKind.i64)) a.layouts 5),(11,bV),(12,bT Ow.bor (.st .gor) b.goroutines 11),(15,bC 32 [.lw 2 2 [] 4 a.funcs.length, .lw 4 4 [] 2 a.globals.length, .lw 6 6 [] 1 a.layouts.length,vI a.main]),(17,bV),(18,bT .all (RT.int IntKind.i64) b.output 17),(19,bC 38 [.lw 23 23 [] 10 (List.length (zd (zr a b) ([],()) X_N (0,[],())).fst), .lw 27 27 [] 6 (List.length (zd (zD a b) ([],()) X_N (0,[],())).fst), .lw 29 29 [] 4 i4.snd.fst.length, .lw 18 18 [] 1 b.output.length]),(22,bV),(23,bT .all (.st .ob) (zd (zr a b) ([],()) X_N (0,[],())).fst 22),(26,bV),(27,bT .all (.st .syn) (zd (zD a b) ([],()) X_N (0,[],())).fst 26),(28,bV),(29,bT .all (.st .gor) i4.snd.fst 28),(30,bC 63 [vI ((List.getD b.goroutines (Int.toNat i4.fst) zan).state),vI ((List.getD b.goroutines (Int.toNat i4.fst) zan).fault),vI ((List.getD b.goroutines (Int.toNat i4.fst) zan).allocs), .lw 42 42 [] 9 (List.length (i8.2.1))]),(41,bV),(42,bT (Ow.dc (Int.toNat i6.fst) [4,2]) (.st .frm) (i8.2.1) 41)],43⟩
noncomputable def zqy (a:Prg) (b:Mac) (i4:Int×(List Gor)×Unit) (i6:Int×(List Frm)×Unit) (u9:(List Frm)×Unit):Snap:=⟨[(2, .ptr 15 0),(5, .ptr 19 0),(11, .ptr 30 0),(68, .lw 12 12 [] 4 b.goroutines.length),(69,vI (↑b.goroutines.length)),(70,vI i4.fst),(80,vI (↑(List.length (List.getD b.goroutines (Int.toNat i4.fst) zan).frames))),(81,vI i6.fst)],[(1,bV),(2,bT .none (.st .fnc) a.funcs 1),(3,bV),(4,bT .none (.st .glb) a.globals 3),(5,bV),(6,bT .none (RT.list (RT.int IntKind.i64)) a.layouts 5),(11,bV),(12,bT Ow.bor (.st .gor) b.goroutines 11),(15,bC 32 [.lw 2 2 [] 4 a.funcs.length, .lw 4 4 [] 2 a.globals.length, .lw 6 6 [] 1 a.layouts.length,vI a.main]),(17,bV),(18,bT .all (RT.int IntKind.i64) b.output 17),(19,bC 38 [.lw 23 23 [] 10 (List.length (zd (zr a b) ([],()) X_N (0,[],())).fst), .lw 27 27 [] 6 (List.length (zd (zD a b) ([],()) X_N (0,[],())).fst), .lw 29 29 [] 4 i4.snd.fst.length, .lw 18 18 [] 1 b.output.length]),(22,bV),(23,bT .all (.st .ob) (zd (zr a b) ([],()) X_N (0,[],())).fst 22),(26,bV),(27,bT .all (.st .syn) (zd (zD a b) ([],()) X_N (0,[],())).fst 26),(28,bV),(29,bT .all (.st .gor) i4.snd.fst 28),(30,bC 63 [vI ((List.getD b.goroutines (Int.toNat i4.fst) zan).state),vI ((List.getD b.goroutines (Int.toNat i4.fst) zan).fault),vI ((List.getD b.goroutines (Int.toNat i4.fst) zan).allocs), .lw 44 44 [] 9 (List.length (u9.1))]),(43,bV),(44,bT (Ow.dc (Int.toNat i6.fst) [4,2]) (.st .frm) (u9.1) 43)],45⟩
noncomputable def zc2 (a:Prg) (b:Mac) (i4:Int×(List Gor)×Unit) (i6:Int×(List Frm)×Unit) (i8:Int×(List Frm)×Unit):(Int×(List Frm)×Unit)⊕((List Frm)×Unit):=let x1:=i8.fst;
let x2:=Int.toNat i6.fst;
let x3:=i8.snd.fst;
let x4:=List.getD x3 x2 zo;
let x5:=x4.defers;
let x6:=List.set i6.snd.fst x2 (List.getD i6.snd.fst x2 zo);
let x7:=(↑(List.length (List.getD (List.set x6 x2 (List.getD x6 x2 zo)) x2 zo).defers):Int);
bif decide (x1<x7) then Sum.inl (IntKind.i64.wrap (x1+(1:Int)),List.set x3 x2 (Frm.mk x4.fn x4.pc x4.regs x4.dest (List.set x5 (Int.toNat x1) (List.getD x5 (Int.toNat x1) zoB)) x4.leaving x4.result),()) else Sum.inr (x3,())
noncomputable def zdR (a:Prg) (b:Mac) (i4:Int×(List Gor)×Unit) (i6:Int×(List Frm)×Unit) (i8:Int×(List Frm)×Unit):Bool:=let x1:=i8.fst;
let x2:=Int.toNat i6.fst;
let x3:=(List.getD i8.snd.fst x2 zo).defers;
let x4:=(x3.length:Int);
let x5:=decide (x2=x2);
let x6:=List.set i6.snd.fst x2 (List.getD i6.snd.fst x2 zo);
let x7:=List.length (List.getD x3 (Int.toNat x1) zoB).args*(24:Nat);
let x8:=(↑(List.length (List.getD (List.set x6 x2 (List.getD x6 x2 zo)) x2 zo).defers):Int);
bif decide (x1<x8) then decide ((0:Int)≤x1∧x1<x4)&&(decide (x7≤(140737488355328:Nat))&&(x5&&(x5&&x5))) else x5
noncomputable def zqx (a:Prg) (b:Mac) (i4:Int×(List Gor)×Unit) (u9:(List Frm)×Unit):Snap:=⟨[(2, .ptr 15 0),(5, .ptr 19 0),(11, .ptr 30 0),(68, .lw 12 12 [] 4 b.goroutines.length),(69,vI (↑b.goroutines.length)),(70,vI i4.fst)],[(1,bV),(2,bT .none (.st .fnc) a.funcs 1),(3,bV),(4,bT .none (.st .glb) a.globals 3),(5,bV),(6,bT .none (RT.list (RT.int IntKind.i64)) a.layouts 5),(11,bV),(12,bT Ow.bor (.st .gor) b.goroutines 11),(15,bC 32 [.lw 2 2 [] 4 a.funcs.length, .lw 4 4 [] 2 a.globals.length, .lw 6 6 [] 1 a.layouts.length,vI a.main]),(17,bV),(18,bT .all (RT.int IntKind.i64) b.output 17),(19,bC 38 [.lw 23 23 [] 10 (List.length (zd (zr a b) ([],()) X_N (0,[],())).fst), .lw 27 27 [] 6 (List.length (zd (zD a b) ([],()) X_N (0,[],())).fst), .lw 29 29 [] 4 i4.snd.fst.length, .lw 18 18 [] 1 b.output.length]),(22,bV),(23,bT .all (.st .ob) (zd (zr a b) ([],()) X_N (0,[],())).fst 22),(26,bV),(27,bT .all (.st .syn) (zd (zD a b) ([],()) X_N (0,[],())).fst 26),(28,bV),(29,bT .all (.st .gor) i4.snd.fst 28),(30,bC 63 [vI ((List.getD b.goroutines (Int.toNat i4.fst) zan).state),vI ((List.getD b.goroutines (Int.toNat i4.fst) zan).fault),vI ((List.getD b.goroutines (Int.toNat i4.fst) zan).allocs), .lw 36 36 [] 9 (List.length (u9.1))]),(35,bV),(36,bT .all (.st .frm) (u9.1) 35)],37⟩
noncomputable def zc1 (a:Prg) (b:Mac) (i4:Int×(List Gor)×Unit) (i6:Int×(List Frm)×Unit):(Int×(List Frm)×Unit)⊕((List Frm)×Unit):=let x1:=i6.fst;
let x2:=Int.toNat x1;
let x3:=i6.snd.fst;
let x4:=(↑(List.length (List.getD b.goroutines (Int.toNat i4.fst) zan).frames):Int);
let x5:=List.set x3 x2 (List.getD x3 x2 zo);
bif decide (x1<x4) then Sum.inl (IntKind.i64.wrap (x1+(1:Int)),(zd (zc2 a b i4 i6) ([],()) X_N ((0:Int),List.set x5 x2 (List.getD x5 x2 zo),())).fst,()) else Sum.inr (x3,())
noncomputable def zdQ (a:Prg) (b:Mac) (i4:Int×(List Gor)×Unit) (i6:Int×(List Frm)×Unit):Bool:=let x1:=i6.fst;
let x2:=Int.toNat x1;
let x3:=i6.snd.fst;
let x4:=x3.length;
let x5:=(↑x4:Int);
let x6:=(↑(List.length (List.getD b.goroutines (Int.toNat i4.fst) zan).frames):Int);
let x7:=List.getD x3 x2 zo;
let x8:=Int.toNat (IntKind.i64.wrap (x1+(1:Int)));
let x9:=decide (x2=x2);
let x10:=x7.regs.length*(24:Nat);
let x11:=List.set x3 x2 x7;
let x12:=List.getD x11 x2 zo;
let x13:=x12.defers.length*(32:Nat);
bif decide (x1<x6) then decide ((0:Int)≤x1∧x1<x5)&&(decide (x10≤(140737488355328:Nat))&&(x9&&(decide (x13≤(140737488355328:Nat))&&(x9&&(x9&&x9&&(X_wok (zc2 a b i4 i6) (zdR a b i4 i6) X_N ((0:Int),List.set x11 x2 x12,())&&decide (x8=Nat.succ x2))))))) else decide (x4≤x2)
noncomputable def zqw (a:Prg) (b:Mac) (u9:(List Gor)×Unit):Snap:=⟨[(2, .ptr 15 0),(5, .ptr 19 0)],[(1,bV),(2,bT .none (.st .fnc) a.funcs 1),(3,bV),(4,bT .none (.st .glb) a.globals 3),(5,bV),(6,bT .none (RT.list (RT.int IntKind.i64)) a.layouts 5),(15,bC 32 [.lw 2 2 [] 4 a.funcs.length, .lw 4 4 [] 2 a.globals.length, .lw 6 6 [] 1 a.layouts.length,vI a.main]),(17,bV),(18,bT .all (RT.int IntKind.i64) b.output 17),(19,bC 38 [.lw 23 23 [] 10 (List.length (zd (zr a b) ([],()) X_N (0,[],())).fst), .lw 27 27 [] 6 (List.length (zd (zD a b) ([],()) X_N (0,[],())).fst), .lw 31 31 [] 4 (List.length (u9.1)), .lw 18 18 [] 1 b.output.length]),(22,bV),(23,bT .all (.st .ob) (zd (zr a b) ([],()) X_N (0,[],())).fst 22),(26,bV),(27,bT .all (.st .syn) (zd (zD a b) ([],()) X_N (0,[],())).fst 26),(30,bV),(31,bT .all (.st .gor) (u9.1) 30)],32⟩
noncomputable def zc0 (a:Prg) (b:Mac) (i4:Int×(List Gor)×Unit):(Int×(List Gor)×Unit)⊕((List Gor)×Unit):=let x1:=i4.fst;
let x2:=List.getD b.goroutines (Int.toNat x1) zan;
bif decide (x1<(b.goroutines.length:Int)) then Sum.inl (IntKind.i64.wrap (x1+(1:Int)),i4.snd.fst++[Gor.mk x2.state x2.fault x2.allocs (zd (zc1 a b i4) ([],()) X_N ((0:Int),x2.frames,())).fst],()) else Sum.inr (i4.snd.fst,())
noncomputable def zdP (a:Prg) (b:Mac) (i4:Int×(List Gor)×Unit):Bool:=let x1:=i4.fst;
let x2:=(List.getD b.goroutines (Int.toNat x1) zan).frames;
let x3:=x2.length*(104:Nat);
let x4:=(i4.snd.fst.length+(1:Nat))*(48:Nat);
bif decide (x1<(b.goroutines.length:Int)) then decide ((0:Int)≤x1∧x1<(b.goroutines.length:Int))&&(decide (x3≤(140737488355328:Nat))&&(decide (Int.toNat (0:Int)=(0:Nat))&&(X_wok (zc1 a b i4) (zdQ a b i4) X_N ((0:Int),x2,())&&decide (x4≤(140737488355328:Nat))))) else true
noncomputable def zjq (a:Prg) (b:Mac):((Prg×Vmx))×Unit:=((a,Vmx.mk (Mac.mk (zd (zr a b) ([],()) X_N ((0:Int),[],())).fst (zd (zD a b) ([],()) X_N ((0:Int),[],())).fst (zd (zc0 a b) ([],()) X_N ((0:Int),[],())).fst b.output) [] []),())
noncomputable def zjr (a:Prg) (b:Mac):Bool:=let x1:=b.output.length*(8:Nat);
decide (x1≤(140737488355328:Nat))&&(X_wok (zr a b) (zdN a b) X_N ((0:Int),[],())&&(X_wok (zD a b) (zdO a b) X_N ((0:Int),[],())&&X_wok (zc0 a b) (zdP a b) X_N ((0:Int),[],())))
noncomputable def zcQ:=hide zjq
noncomputable def zgr:=hide zjr
theorem zlV:zcQ=zjq:=zb _
theorem zlU:zgr=zjr:=zb _
noncomputable def zwO:Ctr:=zcB [.v true (.st .prg), .bor (.st .mac)] [.box 120 .prg .vmx] (uu2 zgr) (uu2 zcQ)
noncomputable def zwN (a:Prg) (b:Mac):Nat→ze5:=fun q=>match q with|0=> .mk [⟨22,none,(.int .i64)⟩,⟨5,some 0,(.list (.st .ob))⟩] (zue a b) [⟨.exit 0,[⟨5,some 0,(.list (.st .ob))⟩],zqu a b⟩] (zr a b) (zdN a b) (H 0x1000) (fun (_:Int×(List Ob)×Unit)=>fun _=> .no)|2=> .mk [⟨52,none,(.int .i64)⟩,⟨5,some 1,(.list (.st .syn))⟩] (zuf a b) [⟨.exit 2,[⟨5,some 1,(.list (.st .syn))⟩],zqv a b⟩] (zD a b) (zdO a b) (H 0x1000) (fun (_:Int×(List Syn)×Unit)=>fun _=> .no)|4=> .mk [⟨70,none,(.int .i64)⟩,⟨5,some 2,(.list (.st .gor))⟩] (zug a b) [⟨.exit 4,[⟨5,some 2,(.list (.st .gor))⟩],zqw a b⟩] (zc0 a b) (zdP a b) (H 0x40000) (fun (i4:Int×(List Gor)×Unit)=>fun q=>match q with|6=> .mk [⟨81,none,(.int .i64)⟩,⟨11,some 3,(.list (.st .frm))⟩] (zuh a b i4) [⟨.exit 6,[⟨11,some 3,(.list (.st .frm))⟩],zqx a b i4⟩] (zc1 a b i4) (zdQ a b i4) (H 0x40000) (fun (i6:Int×(List Frm)×Unit)=>fun q=>match q with|8=> .mk [⟨109,none,(.int .i64)⟩,⟨11,some 3,(.list (.st .frm))⟩] (zui a b i4 i6) [⟨.exit 8,[⟨11,some 3,(.list (.st .frm))⟩],zqy a b i4 i6⟩] (zc2 a b i4 i6) (zdR a b i4 i6) (H 0x43000) (fun (_:Int×(List Frm)×Unit)=>fun _=> .no)|_=> .no)|_=> .no)|_=> .no
noncomputable def zwP:TT:=((((T0.a zFm).a zs6).a zFn).a zzc).a zzd
theorem zrn:zi Tryz.prog 57 zwO:=zcS Tryz.f57 zwP (congrArg uu2 zlU) (congrArg uu2 zlV) 15 141 (uu2 zwN) 0x40000 (fun zz=>zC [(0,(zaP 0 (bd Tryz.f57))),(2,(zaP 1 (bd Tryz.f57))),(4,(zaP 2 (bd Tryz.f57)))] (by kernel_rfl) ⟨fun _=>⟨by kernel_rfl,zm (by kernel_rfl)⟩,⟨fun _=>⟨by kernel_rfl,zm (by kernel_rfl)⟩,⟨fun _=>⟨by kernel_rfl,zC [(6,(zaP 0 (zaP 2 (bd Tryz.f57))))] (by kernel_rfl) ⟨fun _=>⟨by kernel_rfl,zC [(8,(zaP 0 (zaP 0 (zaP 2 (bd Tryz.f57)))))] (by kernel_rfl) ⟨fun _=>⟨by kernel_rfl,zm (by kernel_rfl)⟩,trivial⟩⟩,trivial⟩⟩,trivial⟩⟩⟩)
theorem zh1 {α:Type} (l:List α) (i:Nat) (d:α):l.set i (l.getD i d)=l:=by
 by_cases h:i<l.length
 ·rw [List.getD_eq_getElem?_getD,zNg h,Option.getD_some,List.set_getElem_self]
 ·rw [List.set_eq_of_length_le (by omega)]
theorem zfi {i n:Nat} (h:i<n) (hn:n≤BIG):IntKind.i64.wrap ((i:Int)+(1:Int))=((i+1:Nat):Int):=by
 have hB:n≤68719476736:=hn;rw [zav (by omega) (by omega)];rfl
theorem zCe {σ:Type} {n:Nat} {x:σ} {step:σ×Int×Unit→(σ×Int×Unit)⊕(σ×Unit)} {ok:σ×Int×Unit→Bool} {d:σ×Unit} (hl:n≤BIG)
  (h1:∀(i:Nat),i<n→step (x,(i:Int),())= .inl (x,IntKind.i64.wrap ((i:Int)+1),())∧ok (x,(i:Int),())=true)
  (h2:step (x,(n:Int),())= .inr (x,())∧ok (x,(n:Int),())=true):
  X_wok step ok X_N (x,(0:Int),())=true∧zd step d X_N (x,(0:Int),())=(x,()):=by
 refine zeS (d:=d) (fun y=>∃j:Nat,y=(x,(j:Int),())∧j≤n) (fun y=>n - y.2.1.toNat) (fun _=>(x,()))
  (fun y hy=>?_) ⟨0,rfl,zNk _⟩ (by
   show n - 0<X_N;have hB:n≤68719476736:=hl;have:X_N=4611686018427387904:=rfl;omega)
 obtain ⟨j,rfl,hj⟩:=hy;by_cases hlt:j<n
 ·obtain ⟨g1,g2⟩:=h1 j hlt;refine ⟨g2, .inl ⟨_,g1,⟨j+1,by rw [zfi hlt hl],hlt⟩,?_,rfl⟩⟩
  show n - (IntKind.i64.wrap ((j:Int)+1)).toNat<n - (j:Int).toNat;rw [zfi hlt hl];simp only [Int.toNat_natCast];omega
 ·obtain rfl:j=n:=by omega
  exact ⟨h2.2, .inr ⟨_,h2.1,rfl⟩⟩
theorem zCd {σ:Type} {n:Nat} {x:σ} {step:Int×σ×Unit→(Int×σ×Unit)⊕(σ×Unit)} {ok:Int×σ×Unit→Bool} {d:σ×Unit} (hl:n≤BIG)
  (h1:∀(i:Nat),i<n→step ((i:Int),x,())= .inl (IntKind.i64.wrap ((i:Int)+1),x,())∧ok ((i:Int),x,())=true)
  (h2:step ((n:Int),x,())= .inr (x,())∧ok ((n:Int),x,())=true):
  X_wok step ok X_N ((0:Int),x,())=true∧zd step d X_N ((0:Int),x,())=(x,()):=by
 refine zeS (d:=d) (fun y=>∃j:Nat,y=((j:Int),x,())∧j≤n) (fun y=>n - y.1.toNat) (fun _=>(x,()))
  (fun y hy=>?_) ⟨0,rfl,zNk _⟩ (by
   show n - 0<X_N;have hB:n≤68719476736:=hl;have:X_N=4611686018427387904:=rfl;omega)
 obtain ⟨j,rfl,hj⟩:=hy;by_cases hlt:j<n
 ·obtain ⟨g1,g2⟩:=h1 j hlt;refine ⟨g2, .inl ⟨_,g1,⟨j+1,by rw [zfi hlt hl],hlt⟩,?_,rfl⟩⟩
  show n - (IntKind.i64.wrap ((j:Int)+1)).toNat<n - (j:Int).toNat;rw [zfi hlt hl];simp only [Int.toNat_natCast];omega
 ·obtain rfl:j=n:=by omega
  exact ⟨h2.2, .inr ⟨_,h2.1,rfl⟩⟩
theorem znX (n:Nat):decide (n=n)=true:=decide_eq_true rfl
theorem zeD {n k:Nat} (h:n≤BIG) (hk:k≤200):decide (n*k≤140737488355328)=true:=zdS (Nat.le_succ_of_le h) hk
theorem zEv (l:List Frm) (i:Nat):l.set i ⟨(l.getD i zo).fn,(l.getD i zo).pc,(l.getD i zo).regs,(l.getD i zo).dest,(l.getD i zo).defers,(l.getD i zo).leaving,(l.getD i zo).result⟩=l:=zh1 l i zo
theorem ze4 {g:Gor} (h:zaW BIG g):zdp g=true∧zf g=(g,()):=by
 obtain ⟨h1,h2⟩:=h;rw [zlR,zlQ];unfold zjk zjl;have key:=zCe (x:=g.frames) (n:=g.frames.length) (step:=zcY g) (ok:=zdK g) (d:=([],())) h1
  (fun i hi=>by
   have hf:=zuk h2 hi;have inner:=zCe (x:=g.frames) (n:=(g.frames.getD i zo).defers.length) (step:=zcZ g (g.frames,(i:Int),())) (ok:=zdL g (g.frames,(i:Int),())) (d:=([],())) hf.2.1
    (fun j hj=>by
     have hd:zGJ BIG ((g.frames.getD i zo).defers.getD j zoB):=hf.2.2 _ (getD_mem hj);unfold zcZ zdL;simp only [Int.toNat_natCast,zh1,zEv,zcI hj,zaj hj,zaj hi,znX,cond_true,Bool.true_and,Bool.and_true,zeD hd (show 24≤200 by decide)]
     exact ⟨by trivial,by trivial⟩)
    (by
     unfold zcZ zdL;simp only [Int.toNat_natCast,zh1,zcV,cond_false];exact ⟨by trivial,by simp⟩)
   unfold zcY zdK;simp only [Int.toNat_natCast,zh1,zcI hi,zaj hi,znX,cond_true,Bool.true_and,Bool.and_true,inner.1,inner.2,zeD hf.1 (show 24≤200 by decide),zeD hf.2.1 (show 32≤200 by decide),zfi hi h1]
   exact ⟨by trivial,by simp⟩)
  (by
   unfold zcY zdK;simp only [Int.toNat_natCast,zcV,cond_false];exact ⟨by trivial,by simp⟩)
 rw [key.1,key.2];exact ⟨by simp only [zeD h1 (show 104≤200 by decide)];rfl,rfl⟩
theorem zwQ {p:Prg} {m:Mac} (h:zau BIG m):zgr p m=true∧zcQ p m=((p,⟨m,[],[]⟩),()):=by
 obtain ⟨⟨h1,h2⟩,⟨h3,h4⟩,⟨h5,h6⟩,h7⟩:=h;rw [zlV,zlU];unfold zjq zjr;have k0:=zrp (l:=m.objects) (d0:=dOb) (f:=fun x=>x) (step:=zr p m) (ok:=zdN p m) (d:=([],())) h1
  (fun i acc hi ha=>by
   obtain ⟨c1,c2,c3,c4⟩:=h2 (m.objects.getD i dOb) (getD_mem hi);unfold zr zdN;simp only [Int.toNat_natCast,zcI hi,zaj hi,cond_true,Bool.true_and,zeD c1 (show 24≤200 by decide),zeD c2 (show 24≤200 by decide),zeD c3 (show 40≤200 by decide),zeD c4 (show 40≤200 by decide)]
   exact ⟨by trivial,zdS (by rw [ha];exact Nat.succ_le_succ (Nat.le_of_lt (zNd hi h1))) (by decide)⟩)
  (fun acc=>by
   unfold zr zdN;simp only [zcV,cond_false,and_self])
 have k2:=zrp (l:=m.syncs) (d0:=zzk) (f:=fun x=>x) (step:=zD p m) (ok:=zdO p m) (d:=([],())) h3
  (fun i acc hi ha=>by
   have hc:zGK BIG (m.syncs.getD i zzk):=h4 _ (getD_mem hi);unfold zD zdO;simp only [Int.toNat_natCast,zcI hi,zaj hi,cond_true,Bool.true_and,zeD hc (show 8≤200 by decide)]
   exact ⟨by trivial,zdS (by rw [ha];exact Nat.succ_le_succ (Nat.le_of_lt (zNd hi h3))) (by decide)⟩)
  (fun acc=>by
   unfold zD zdO;simp only [zcV,cond_false,and_self])
 have k4:=zrp (l:=m.goroutines) (d0:=zan) (f:=fun x=>x) (step:=zc0 p m) (ok:=zdP p m) (d:=([],())) h5
  (fun q acc hq ha=>by
   obtain ⟨f1,f2⟩:=h6 (m.goroutines.getD q zan) (getD_mem hq);have key:=zCd (x:=(m.goroutines.getD q zan).frames) (n:=(m.goroutines.getD q zan).frames.length) (step:=zc1 p m ((q:Int),acc,())) (ok:=zdQ p m ((q:Int),acc,())) (d:=([],())) f1
    (fun i hi=>by
     have hf:=zuk f2 hi;have inner:=zCd (x:=(m.goroutines.getD q zan).frames) (n:=((m.goroutines.getD q zan).frames.getD i zo).defers.length) (step:=zc2 p m ((q:Int),acc,()) ((i:Int),(m.goroutines.getD q zan).frames,())) (ok:=zdR p m ((q:Int),acc,()) ((i:Int),(m.goroutines.getD q zan).frames,())) (d:=([],())) hf.2.1
      (fun j hj=>by
       have hd:zGJ BIG (((m.goroutines.getD q zan).frames.getD i zo).defers.getD j zoB):=hf.2.2 _ (getD_mem hj);unfold zc2 zdR;simp only [Int.toNat_natCast,zh1,zEv,zcI hj,zaj hj,zaj hi,znX,cond_true,Bool.true_and,Bool.and_true,zeD hd (show 24≤200 by decide)]
       exact ⟨by trivial,by trivial⟩)
      (by
       unfold zc2 zdR;simp only [Int.toNat_natCast,zh1,zcV,cond_false];exact ⟨by trivial,by simp⟩)
     unfold zc1 zdQ;simp only [Int.toNat_natCast,zh1,zcI hi,zaj hi,znX,cond_true,Bool.true_and,Bool.and_true,inner.1,inner.2,zeD hf.1 (show 24≤200 by decide),zeD hf.2.1 (show 32≤200 by decide),zfi hi f1]
     exact ⟨by trivial,by simp⟩)
    (by
     unfold zc1 zdQ;simp only [Int.toNat_natCast,zcV,cond_false];exact ⟨by trivial,by simp⟩)
   unfold zc0 zdP;simp only [Int.toNat_natCast,zcI hq,zaj hq,cond_true,Bool.true_and,key.1,key.2,zeD f1 (show 104≤200 by decide)]
   refine ⟨by trivial,?_⟩
   rw [zdS (by rw [ha];exact Nat.succ_le_succ (Nat.le_of_lt (zNd hq h5))) (by decide)]
   rfl)
  (fun acc=>by
   unfold zc0 zdP;simp only [zcV,cond_false,and_self])
 rw [k0.1,k0.2,k2.1,k2.2,k4.1,k4.2,zgl,zgl,zgl];exact ⟨by simp only [zeD h7 (show 8≤200 by decide),Bool.and_self],rfl⟩
theorem zCf {β:Type} {n:Int} {f:Nat→β} {step:List β×Int×Unit→(List β×Int×Unit)⊕(List β×Unit)} {ok:List β×Int×Unit→Bool} {d:List β×Unit} (hl:n≤(BIG:Int))
  (h1:∀(i:Nat) (acc:List β),(i:Int)<n→acc.length=i→step (acc,(i:Int),())= .inl (acc++[f i],IntKind.i64.wrap ((i:Int)+1),())∧ok (acc,(i:Int),())=true)
  (h2:∀(i:Nat) (acc:List β),¬(i:Int)<n→step (acc,(i:Int),())= .inr (acc,())∧ok (acc,(i:Int),())=true):
  X_wok step ok X_N ([],(0:Int),())=true∧zd step d X_N ([],(0:Int),())=((List.range n.toNat).map f,()):=by
 have hB:n≤68719476736:=hl;refine zeS (step:=step) (ok:=ok) (d:=d) (fun x=>∃j:Nat,x=((List.range j).map f,(j:Int),())∧j≤n.toNat) (fun x=>n.toNat - x.2.1.toNat) (fun _=>((List.range n.toNat).map f,()))
  (fun x hx=>?_) ⟨0,rfl,zNk _⟩ (by
   show n.toNat - 0<X_N;have:X_N=4611686018427387904:=rfl;omega)
 obtain ⟨j,rfl,hj⟩:=hx;by_cases hlt:(j:Int)<n
 ·obtain ⟨g1,g2⟩:=h1 j ((List.range j).map f) hlt (by simp)
  have hw:IntKind.i64.wrap ((j:Int)+1)=((j+1:Nat):Int):=by rw [zav (by omega) (by omega)];rfl
  refine ⟨g2, .inl ⟨_,g1,⟨j+1,?_,by omega⟩,?_,rfl⟩⟩
  ·rw [hw,List.range_succ,List.map_append];rfl
  ·show n.toNat - (IntKind.i64.wrap ((j:Int)+1)).toNat<n.toNat - (j:Int).toNat;rw [hw];simp only [Int.toNat_natCast];omega
 ·obtain ⟨g1,g2⟩:=h2 j ((List.range j).map f) hlt;have:j=n.toNat:=by omega
  subst this;exact ⟨g2, .inr ⟨_,g1,rfl⟩⟩
theorem zf1 {g:Gor} {from_ n:Int} (h:g.frames.length≤BIG) (hn:n≤(BIG:Int)):zbu g from_ n=true∧r23arguments_s g from_ n=(argsK g from_ n,()):=by
 have hB:n≤68719476736:=hn;rw [ziY,ziX];unfold zgD zgE argsK;have key:=zCf (f:=fun i:Nat=>zac g (IntKind.i64.wrap (from_+(i:Int)))) (step:=zbM g from_ n) (ok:=zcO g from_ n) (d:=([],())) hn
  (fun i acc hi ha=>by
   have hr:=zpJ (g:=g) (r:=IntKind.i64.wrap (from_+(i:Int))) h;unfold zbM zcO;simp only [decide_eq_true hi,cond_true,hr.1,hr.2,Bool.true_and];exact ⟨by trivial,zdS (by rw [ha];show i+1≤68719476737;omega) (by decide)⟩)
  (fun i acc hi=>by
   unfold zbM zcO;simp only [decide_eq_false hi,cond_false,and_self])
 rw [key.1,key.2];exact ⟨rfl,rfl⟩
theorem zsH {v:Vm} {k:Nat} {from_ n:Int} (h:zau BIG v.m) (hk:k<v.m.goroutines.length) (hf:0<(gorK v.m k).frames.length) (hn:n≤(BIG:Int)):zgt v k from_ n=true∧zgu v k from_ n=(argsK (gorK v.m k) from_ n,()):=by
 have hB:n≤68719476736:=hn;rw [zy5,zy4];unfold zxb zxc argsK;have key:=zCf (f:=fun i:Nat=>zac (gorK v.m k) (IntKind.i64.wrap (from_+(i:Int)))) (step:=zjt v k from_ n) (ok:=zkQ v k from_ n) (d:=([],())) hn
  (fun i acc hi ha=>by
   have hr:=zt5 (r:=IntKind.i64.wrap (from_+(i:Int))) h hk hf;unfold zjt zkQ;simp only [decide_eq_true hi,cond_true,hr.1,hr.2,Bool.true_and];exact ⟨by trivial,zdS (by rw [ha];show i+1≤68719476737;omega) (by decide)⟩)
  (fun i acc hi=>by
   unfold zjt zkQ;simp only [decide_eq_false hi,cond_false,and_self])
 rw [key.1,key.2];exact ⟨rfl,rfl⟩
def zro (k:Int):Val:=bif k==1 then ⟨1,0,0⟩ else ⟨0,0,0⟩
theorem zsi (k:Int):zlH k=true∧zlI k=(zro k,()):=by
 rw [zsk,zsj];unfold zp5 zp6 zro;exact ⟨rfl,by cases (k==1)<;>rfl⟩
theorem zyl {l:List Int} (h:l.length≤BIG):zjJ l=true∧zht l=(l.map zro,()):=by
 rw [zpL,zpK];unfold zmP zmQ;have key:=zsA (l:=l) (d0:=(0:Int)) (f:=zro) (step:=zd8 l) (ok:=zfZ l) (d:=([],())) h
  (fun i acc hi ha=>by
   unfold zd8 zfZ;simp only [Int.toNat_natCast,zcI hi,zaj hi,cond_true,Bool.true_and,(zsi _).1,(zsi _).2];exact ⟨by trivial,zdS (by rw [ha];exact Nat.succ_le_succ (Nat.le_of_lt (zNd hi h))) (by decide)⟩)
  (fun acc=>by
   unfold zd8 zfZ;simp only [zcV,cond_false,and_self])
 rw [key.1,key.2];exact ⟨rfl,rfl⟩
noncomputable def zmx (a:Mac) (b:Int) (c:Ob):Mac×Int×Int×Unit:=let x1:=(List.getD a.goroutines (Int.toNat b) zan).allocs;
let x2:=IntKind.i64.wrap (IntKind.i64.wrap ((1:Int)+b)+IntKind.i64.wrap ((8:Int)*x1));
let x3:=(zlq a (Ob.mk x2 c.cells_ c.chan c.cap c.queue c.closed c.sent c.received c.senders c.receivers)).fst;
let x4:=x3.goroutines;
let x5:=List.getD x4 (Int.toNat b) zan;
bif !decide (b<(0:Int)) then bif !decide (b≥(a.goroutines.length:Int)) then bif decide (b≥(8:Int)) then (Mac.mk [] [] [] [],(0:Int),(1:Int),()) else bif !decide (x1<(0:Int)) then bif decide (x1≥(200:Int)) then (Mac.mk [] [] [] [],(0:Int),(3:Int),()) else (Mac.mk x3.objects x3.syncs (List.set x4 (Int.toNat b) (Gor.mk x5.state x5.fault (IntKind.i64.wrap (x1+(1:Int))) x5.frames)) x3.output,x2,(0:Int),()) else (Mac.mk [] [] [] [],(0:Int),(3:Int),()) else (Mac.mk [] [] [] [],(0:Int),(1:Int),()) else (Mac.mk [] [] [] [],(0:Int),(1:Int),())
noncomputable def zmy (a:Mac) (b:Int) (c:Ob):Bool:=let x1:=(a.goroutines.length:Int);
let x2:=(List.getD a.goroutines (Int.toNat b) zan).allocs;
let x3:=Ob.mk (IntKind.i64.wrap (IntKind.i64.wrap ((1:Int)+b)+IntKind.i64.wrap ((8:Int)*x2))) c.cells_ c.chan c.cap c.queue c.closed c.sent c.received c.senders c.receivers;
let x4:=(↑(List.length (zlq a x3).fst.goroutines):Int);
bif !decide (b<(0:Int)) then bif !decide (b≥x1) then bif decide (b≥(8:Int)) then true else decide ((0:Int)≤b∧b<x1)&&bif !decide (x2<(0:Int)) then bif decide (x2≥(200:Int)) then true else zoa a x3&&decide ((0:Int)≤b∧b<x4) else true else true else true
noncomputable def zcp:=hide zmx
noncomputable def zjH:=hide zmy
theorem zpi:zcp=zmx:=zb _
theorem zph:zjH=zmy:=zb _
noncomputable def zBj:Ctr:=zcB [.v false (.st .mac), .v false (.int .i64), .v false (.st .ob)] [.own (.st .mac), .own (.int .i64), .own (.int .i64)] (uu3 zjH) (uu3 zcp)
noncomputable def zBk:TT:=T0.a zBr
theorem zvQ:zi Tryz.prog 270 zBj:=zcS Tryz.f270 zBk (congrArg uu3 zph) (congrArg uu3 zpi) 17 57 (fun _=>noA) 0x1041082042082081042041080000081000002040081041040
noncomputable def zkF (a:Mac) (b:Int) (c:Int) (d:Ob):Mac×Unit:=bif (zcp a b d).snd.snd.fst != (0:Int) then ((zK a b (9:Int)).fst,()) else ((zaf (zcp a b d).fst b c (Val.mk (2:Int) (zcp a b d).snd.fst (0:Int))).fst,())
noncomputable def zkG (a:Mac) (b:Int) (c:Int) (d:Ob):Bool:=zjH a b d&&bif (zcp a b d).snd.snd.fst != (0:Int) then zbb a b (9:Int) else zbs (zcp a b d).fst b c (Val.mk (2:Int) (zcp a b d).snd.fst (0:Int))
noncomputable def zdi:=hide zkF
noncomputable def zdh:=hide zkG
theorem znq:zdi=zkF:=zb _
theorem znp:zdh=zkG:=zb _
noncomputable def zyq:Ctr:=zcB [.v false (.st .mac), .v false (.int .i64), .v false (.int .i64), .v false (.st .ob)] [.own (.st .mac)] (uu4 zdh) (uu4 zdi)
noncomputable def zyr:TT:=((T0.a zf0).a zsf).a zvQ
theorem ztZ:zi Tryz.prog 227 zyq:=zcS Tryz.f227 zyr (congrArg uu4 znp) (congrArg uu4 znq) 17 31 (fun _=>noA) 0x1000000
noncomputable def zhV (a:Prg) (b:Mac) (c:Int) (d:Ins):Mac×Unit:=let x1:=(zg (zZ (List.getD b.goroutines (Int.toNat c) zan) d.b).fst).fst;
bif d.op==(21:Int) then ((zdi b c d.a (Ob.mk (0:Int) (zht (List.getD a.layouts (Int.toNat d.b) [])).fst false (0:Int) [] false (0:Int) (0:Int) [] [])).fst,()) else bif d.op==(24:Int) then ((zdi b c d.a (Ob.mk (0:Int) ([(zaM d.b).fst]++(r23arguments_s (List.getD b.goroutines (Int.toNat c) zan) (IntKind.i64.wrap (d.a+(1:Int))) d.c).fst) false (0:Int) [] false (0:Int) (0:Int) [] [])).fst,()) else bif !decide (x1<(0:Int)) then bif decide (x1>(64:Int)) then ((zK b c (7:Int)).fst,()) else bif d.op==(23:Int) then ((zdi b c d.a (Ob.mk (0:Int) [] true x1 [] false (0:Int) (0:Int) [] [])).fst,()) else ((zdi b c d.a (Ob.mk (0:Int) (List.replicate (Int.toNat x1) (Val.mk (0:Int) (0:Int) (0:Int))) false (0:Int) [] false (0:Int) (0:Int) [] [])).fst,()) else ((zK b c (7:Int)).fst,())
noncomputable def zhW (a:Prg) (b:Mac) (c:Int) (d:Ins):Bool:=let x1:=List.getD b.goroutines (Int.toNat c) zan;
let x2:=IntKind.i64.wrap (d.a+(1:Int));
let x3:=(zg (zZ x1 d.b).fst).fst;
let x4:=(r23arguments_s x1 x2 d.c).fst;
let x5:=(↑(24:Nat):Int)*x3;
let x6:=((1:Nat)+x4.length)*(24:Nat);
decide ((0:Int)≤c∧c<(b.goroutines.length:Int))&&(zek x1 d.b&&(zbr (zZ x1 d.b).fst&&bif d.op==(21:Int) then decide ((0:Int)≤d.b∧d.b<(a.layouts.length:Int))&&(zjJ (List.getD a.layouts (Int.toNat d.b) [])&&zdh b c d.a (Ob.mk (0:Int) (zht (List.getD a.layouts (Int.toNat d.b) [])).fst false (0:Int) [] false (0:Int) (0:Int) [] [])) else bif d.op==(24:Int) then zb7 d.b&&(zbu x1 x2 d.c&&(decide (x6≤(140737488355328:Nat))&&zdh b c d.a (Ob.mk (0:Int) ([(zaM d.b).fst]++x4) false (0:Int) [] false (0:Int) (0:Int) [] []))) else bif !decide (x3<(0:Int)) then bif decide (x3>(64:Int)) then zbb b c (7:Int) else bif d.op==(23:Int) then zdh b c d.a (Ob.mk (0:Int) [] true x3 [] false (0:Int) (0:Int) [] []) else decide (x3=x3∧(0:Int)≤x3∧x5≤(281474976710656:Int))&&zdh b c d.a (Ob.mk (0:Int) (List.replicate (Int.toNat x3) (Val.mk (0:Int) (0:Int) (0:Int))) false (0:Int) [] false (0:Int) (0:Int) [] []) else zbb b c (7:Int)))
noncomputable def zb6:=hide zhV
noncomputable def zb5:=hide zhW
theorem zka:zb6=zhV:=zb _
theorem zj9:zb5=zhW:=zb _
noncomputable def ztW:Ctr:=zcB [.v true (.st .prg), .v false (.st .mac), .v false (.int .i64), .v false (.st .ins)] [.own (.st .mac)] (uu4 zb5) (uu4 zb6)
noncomputable def ztX:TT:=((((((T0.a zf0).a zmO).a zgH).a zjN).a zv8).a zih).a ztZ
theorem zpS:zi Tryz.prog 142 ztW:=zcS Tryz.f142 ztX (congrArg uu4 zj9) (congrArg uu4 zka) 15 85 (fun _=>noA) 0x40041080000000081000000000000000000
noncomputable def zmU (a:Prg) (b:Mac) (c:Int) (d:Int) (e:List Val) (f:Int):Mac×Unit:=let x1:=(zbL b c (IntKind.i64.wrap ((zhX b c).fst+(1:Int)))).fst;
bif (zbk a (List.getD x1.goroutines (Int.toNat c) zan) d e f).snd.fst != (0:Int) then ((zK b c (9:Int)).fst,()) else ((zaT x1 c (zbk a (List.getD x1.goroutines (Int.toNat c) zan) d e f).fst).fst,())
noncomputable def zmV (a:Prg) (b:Mac) (c:Int) (d:Int) (e:List Val) (f:Int):Bool:=let x1:=IntKind.i64.wrap ((zhX b c).fst+(1:Int));
let x2:=(zbL b c x1).fst;
let x3:=x2.goroutines;
let x4:=(x3.length:Int);
let x5:=List.getD x3 (Int.toNat c) zan;
zi6 b c&&(zcm b c x1&&(decide ((0:Int)≤c∧c<x4)&&(zff a x5 d e f&&bif (zbk a x5 d e f).snd.fst != (0:Int) then zbb b c (9:Int) else zcn x2 c (zbk a x5 d e f).fst)))
noncomputable def zea:=hide zmU
noncomputable def r23enter_o:=hide zmV
theorem zpW:zea=zmU:=zb _
theorem zpV:r23enter_o=zmV:=zb _
noncomputable def zBG:Ctr:=zcB [.v true (.st .prg), .v false (.st .mac), .v false (.int .i64), .v false (.int .i64), .v false (.list (.st .val)), .v false (.int .i64)] [.own (.st .mac)] (uu6 r23enter_o) (uu6 zea)
noncomputable def zBH:TT:=((((T0.a ziU).a zhY).a zf0).a zkC).a zpX
theorem zwg:zi Tryz.prog 143 zBG:=zcS Tryz.f143 zBH (congrArg uu6 zpV) (congrArg uu6 zpW) 17 45 (fun _=>noA) 0x40000000000
noncomputable def zmI (a:Gor) (b:Dfr):Gor×Unit:=let x1:=(↑(List.length (za a).fst.frames):Int);
let x2:=Int.toNat (IntKind.i64.wrap (x1 - (1:Int)));
let x3:=List.getD (za a).fst.frames x2 zo;
bif decide (x1>(0:Int)) then (Gor.mk (za a).fst.state (za a).fst.fault (za a).fst.allocs (List.set (za a).fst.frames x2 (Frm.mk x3.fn x3.pc x3.regs x3.dest (x3.defers++[b]) x3.leaving x3.result)),()) else ((za a).fst,())
noncomputable def zmJ (a:Gor) (b:Dfr):Bool:=let x1:=(↑(List.length (za a).fst.frames):Int);
let x2:=b.args.length*(24:Nat);
let x3:=IntKind.i64.wrap (x1 - (1:Int));
let x4:=Int.toNat x3;
let x5:=(List.length (List.getD (za a).fst.frames x4 zo).defers+(1:Nat))*(32:Nat);
zS a&&bif decide (x1>(0:Int)) then decide ((0:Int)≤x3∧x3<x1)&&(decide (x2≤(140737488355328:Nat))&&(decide (x5≤(140737488355328:Nat))&&decide (x4=x4))) else true
noncomputable def zcr:=hide zmI
noncomputable def zfe:=hide zmJ
theorem zpE:zcr=zmI:=zb _
theorem zpD:zfe=zmJ:=zb _
noncomputable def zBt:Ctr:=zcB [.v false (.st .gor), .v false (.st .dfr)] [.own (.st .gor)] (uu2 zfe) (uu2 zcr)
noncomputable def zBu:TT:=T0.a zat
theorem zv1:zi Tryz.prog 145 zBt:=zcS Tryz.f145 zBu (congrArg uu2 zpD) (congrArg uu2 zpE) 5 37 (fun _=>noA) 0x10c0000
noncomputable def zi2 (a:Prg) (b:Mac) (c:Val):Int×Bool×Unit:=let x1:=(zcg b (Val.mk (2:Int) c.n (0:Int))).fst;
let x2:=x1.n;
bif !c.kind != (2:Int) then bif !(zcg b (Val.mk (2:Int) c.n (0:Int))).snd.fst != (0:Int) then bif !x1.kind != (0:Int) then bif !decide (x2<(0:Int)) then bif !decide (x2≥(a.funcs.length:Int)) then bif (List.getD a.funcs (Int.toNat x2) dFnc).params != (1:Int) then ((0:Int),false,()) else (x2,true,()) else ((0:Int),false,()) else ((0:Int),false,()) else ((0:Int),false,()) else ((0:Int),false,()) else ((0:Int),false,())
noncomputable def zi3 (a:Prg) (b:Mac) (c:Val):Bool:=let x1:=(a.funcs.length:Int);
let x2:=(zcg b (Val.mk (2:Int) c.n (0:Int))).fst;
let x3:=x2.n;
zhm b (Val.mk (2:Int) c.n (0:Int))&&bif !c.kind != (2:Int) then bif !(zcg b (Val.mk (2:Int) c.n (0:Int))).snd.fst != (0:Int) then bif !x2.kind != (0:Int) then bif !decide (x3<(0:Int)) then bif !decide (x3≥x1) then decide ((0:Int)≤x3∧x3<x1) else true else true else true else true else true
noncomputable def zbV:=hide zi2
noncomputable def zeA:=hide zi3
theorem zlE:zbV=zi2:=zb _
theorem zlD:zeA=zi3:=zb _
noncomputable def zwd:Ctr:=zcB [.v true (.st .prg), .v false (.st .mac), .v false (.st .val)] [.own (.int .i64), .own (.bool)] (uu3 zeA) (uu3 zbV)
noncomputable def zwe:TT:=T0.a zpr
theorem zq5:zi Tryz.prog 146 zwd:=zcS Tryz.f146 zwe (congrArg uu3 zlD) (congrArg uu3 zlE) 15 55 (fun _=>noA) 0x1041082082082082042082082081082081082081081042082082082081082082082042082042081042082082082081082082082042081042082082082081082082081042082082082002041040041041002041041040081040081040081000
def zml (p:Prg):Prop:=∀f∈p.funcs,0≤f.params∧f.params≤f.regs∧f.regs≤(BIG:Int)
def zIQ (fn:Int) (regs:Int) (args:List Val) (dest:Int):Frm:=⟨fn,0,args++List.replicate (regs.toNat - args.length) zjY,dest,[],false,zjY⟩
def zbw (p:Prg) (g:Gor) (fn:Int) (args:List Val) (dest:Int):Option Gor:=
 bif inR p.funcs fn&&((args.length:Int)==(p.funcs.getD fn.toNat dFnc).params)&& !decide ((g.frames.length:Int)≥32) then some ⟨g.state,g.fault,g.allocs,g.frames++[zIQ fn (p.funcs.getD fn.toNat dFnc).regs args dest]⟩ else none
theorem zIX {n:Int} {x:Val} {step:List Val×Unit→(List Val×Unit)⊕(List Val×Unit)} {ok:List Val×Unit→Bool} {d:List Val×Unit} (hn:n≤(BIG:Int))
  (h1:∀(l:List Val),(l.length:Int)<n→step (l,())= .inl (l++[x],())∧ok (l,())=true) (h2:∀(l:List Val),¬(l.length:Int)<n→step (l,())= .inr (l,())∧ok (l,())=true) (l:List Val):
  X_wok step ok X_N (l,())=true∧zd step d X_N (l,())=(l++List.replicate (n.toNat - l.length) x,()):=by
 have hB:n≤68719476736:=hn;refine zeS (step:=step) (ok:=ok) (d:=d) (fun _=>True) (fun y=>n.toNat - y.1.length) (fun y=>(y.1++List.replicate (n.toNat - y.1.length) x,())) (fun y _=>?_) trivial (by
  show n.toNat - l.length<X_N;have:X_N=4611686018427387904:=rfl;omega)
 obtain ⟨l,u⟩:=y;by_cases hlt:(l.length:Int)<n
 ·obtain ⟨g1,g2⟩:=h1 l hlt;refine ⟨g2, .inl ⟨_,g1,trivial,?_,?_⟩⟩
  ·show n.toNat - (l++[x]).length<n.toNat - l.length;rw [zNo];simp only [List.length_singleton];omega
  ·show ((l++[x])++List.replicate (n.toNat - (l++[x]).length) x,())=(l++List.replicate (n.toNat - l.length) x,());rw [zNo,List.append_assoc,List.length_singleton,show n.toNat - l.length=(n.toNat - (l.length+1))+1 by omega,List.replicate_succ]
   rfl
 ·obtain ⟨g1,g2⟩:=h2 l hlt;refine ⟨g2, .inr ⟨_,g1,?_⟩⟩;rw [show n.toNat - l.length=0 by omega]
  simp
theorem zkB {p:Prg} {g:Gor} {fn:Int} {args:List Val} {dest:Int} (hp:zml p) (h:zaW BIG g) (ha:args.length≤BIG):
  zff p g fn args dest=true∧match zbw p g fn args dest with|some x=>zbk p g fn args dest=(x,0,())|none=>((zbk p g fn args dest).2.1 != 0)=true:=by
 rw [zpG,zpF];unfold zmK zmL zbw inR;have hc:=zah h;rcases zaN fn p.funcs.length with h1|h1|⟨h1,h2⟩
 ·have e1:decide (fn<(0:Int))=true:=decide_eq_true h1;have e3:decide ((0:Int)≤fn∧fn<(p.funcs.length:Int))=false:=decide_eq_false (by omega)
  simp only [e1,e3,Bool.not_true,cond_false,Bool.false_and];exact ⟨by trivial,by trivial⟩
 ·have e1:decide (fn<(0:Int))=false:=decide_eq_false (by omega)
  have e2:decide (fn≥(p.funcs.length:Int))=true:=decide_eq_true h1;have e3:decide ((0:Int)≤fn∧fn<(p.funcs.length:Int))=false:=decide_eq_false (by omega)
  simp only [e1,e2,e3,Bool.not_true,Bool.not_false,cond_false,cond_true,Bool.false_and];exact ⟨by trivial,by trivial⟩
 ·have e1:decide (fn<(0:Int))=false:=decide_eq_false (by omega)
  have e2:decide (fn≥(p.funcs.length:Int))=false:=decide_eq_false (by omega)
  have e3:decide ((0:Int)≤fn∧fn<(p.funcs.length:Int))=true:=decide_eq_true (by omega)
  obtain ⟨q1,q2,q3⟩:=hp (p.funcs.getD fn.toNat dFnc) (getD_mem (by omega))
  simp only [e1,e2,e3,Bool.not_false,cond_true,Bool.true_and];by_cases hq:(args.length:Int)=(p.funcs.getD fn.toNat dFnc).params
  ·have e4:((args.length:Int) != (p.funcs.getD fn.toNat dFnc).params)=false:=by rw [hq];exact bne_self_eq_false _
   have e5:((args.length:Int)==(p.funcs.getD fn.toNat dFnc).params)=true:=beq_iff_eq.2 hq;have e6:decide ((args.length:Int)>(p.funcs.getD fn.toNat dFnc).regs)=false:=decide_eq_false (by omega)
   simp only [e4,e5,e6,Bool.not_false,cond_true,cond_false,Bool.true_and];cases hfr:decide ((g.frames.length:Int)≥(32:Int)) with
   |true=>exact ⟨by trivial,by trivial⟩
   |false=>
    have key:=zIX (n:=(p.funcs.getD fn.toNat dFnc).regs) (x:=zjY) (step:=zd7 p g fn args dest) (ok:=zfY p g fn args dest) (d:=([],())) q3
     (fun l hl=>by
      unfold zd7 zfY;simp only [e3,decide_eq_true hl,cond_true,Bool.true_and];refine ⟨by trivial,zdS ?_ (by decide)⟩
      have hB:(p.funcs.getD fn.toNat dFnc).regs≤68719476736:=q3;show l.length+1≤68719476737;omega)
     (fun l hl=>by
      unfold zd7 zfY;simp only [e3,decide_eq_false hl,cond_false,Bool.true_and];exact ⟨by trivial,by trivial⟩) args
    simp only [hc.1,hc.2,key.1,key.2,cond_false,Bool.not_false,cond_true,Bool.true_and,zeD ha (show 24≤200 by decide),zdS (Nat.succ_le_succ h.1) (show 104≤200 by decide)]
    exact ⟨by trivial,by trivial⟩
  ·have e4:((args.length:Int) != (p.funcs.getD fn.toNat dFnc).params)=true:=bne_iff_ne.2 hq;have e5:((args.length:Int)==(p.funcs.getD fn.toNat dFnc).params)=false:=beq_eq_false_iff_ne.2 hq;simp only [e4,e5,Bool.not_true,cond_false,Bool.false_and];exact ⟨by trivial,by trivial⟩
theorem zjh {p:Prg} {g:Gor} {fn:Int} {args:List Val} {dest:Int} (hp:zml p) (h:zaW BIG g):
  zdd p g fn args dest=true∧match zbw p g fn args dest with|some x=>zao p g fn args dest=(x,0,())|none=>((zao p g fn args dest).2.1 != 0)=true:=by
 rw [zjj,zji];unfold zgN zgO zbw inR;have hc:=ze4 h;rcases zaN fn p.funcs.length with h1|h1|⟨h1,h2⟩
 ·have e1:decide (fn<(0:Int))=true:=decide_eq_true h1;have e3:decide ((0:Int)≤fn∧fn<(p.funcs.length:Int))=false:=decide_eq_false (by omega)
  simp only [e1,e3,Bool.not_true,cond_false,Bool.false_and];exact ⟨by trivial,by trivial⟩
 ·have e1:decide (fn<(0:Int))=false:=decide_eq_false (by omega)
  have e2:decide (fn≥(p.funcs.length:Int))=true:=decide_eq_true h1;have e3:decide ((0:Int)≤fn∧fn<(p.funcs.length:Int))=false:=decide_eq_false (by omega)
  simp only [e1,e2,e3,Bool.not_true,Bool.not_false,cond_false,cond_true,Bool.false_and];exact ⟨by trivial,by trivial⟩
 ·have e1:decide (fn<(0:Int))=false:=decide_eq_false (by omega)
  have e2:decide (fn≥(p.funcs.length:Int))=false:=decide_eq_false (by omega)
  have e3:decide ((0:Int)≤fn∧fn<(p.funcs.length:Int))=true:=decide_eq_true (by omega)
  obtain ⟨q1,q2,q3⟩:=hp (p.funcs.getD fn.toNat dFnc) (getD_mem (by omega))
  simp only [e1,e2,e3,Bool.not_false,cond_true,Bool.true_and];by_cases hq:(args.length:Int)=(p.funcs.getD fn.toNat dFnc).params
  ·have e4:((args.length:Int) != (p.funcs.getD fn.toNat dFnc).params)=false:=by rw [hq];exact bne_self_eq_false _
   have e5:((args.length:Int)==(p.funcs.getD fn.toNat dFnc).params)=true:=beq_iff_eq.2 hq;have e6:decide ((args.length:Int)>(p.funcs.getD fn.toNat dFnc).regs)=false:=decide_eq_false (by omega)
   simp only [e4,e5,e6,cond_false,Bool.true_and];cases hfr:decide ((g.frames.length:Int)≥(32:Int)) with
   |true=>exact ⟨by trivial,by trivial⟩
   |false=>
    have hB:(p.funcs.getD fn.toNat dFnc).regs≤68719476736:=q3;have e7:decide ((0:Int)≤(p.funcs.getD fn.toNat dFnc).regs∧((24:Nat):Int)*(p.funcs.getD fn.toNat dFnc).regs≤(281474976710656:Int))=true:=decide_eq_true ⟨by omega,by omega⟩
    simp only [hc.1,hc.2,true_and,e7,cond_false,Bool.not_false,cond_true,Bool.true_and,zdS (Nat.succ_le_succ h.1) (show 104≤200 by decide)]
    have hl:args.length≤(p.funcs.getD fn.toNat dFnc).regs.toNat:=by omega
    have e8:List.take (List.replicate (p.funcs.getD fn.toNat dFnc).regs.toNat ({kind:=0,n:=0,off:=0}:Val)).length args=args:=by rw [List.length_replicate,List.take_of_length_le hl]
    unfold zIQ;simp only [e8,List.drop_replicate,and_self]
  ·have e4:((args.length:Int) != (p.funcs.getD fn.toNat dFnc).params)=true:=bne_iff_ne.2 hq;have e5:((args.length:Int)==(p.funcs.getD fn.toNat dFnc).params)=false:=beq_eq_false_iff_ne.2 hq;simp only [e4,e5,cond_false,cond_true,Bool.false_and];exact ⟨by trivial,by trivial⟩
def zCF (f:Frm) (d:Dfr):Frm:=⟨f.fn,f.pc,f.regs,f.dest,f.defers++[d],f.leaving,f.result⟩
def zbd (g:Gor) (d:Dfr):Gor:=zbX g (zCF (topK g) d)
theorem zyg {g:Gor} {d:Dfr} (h:zaW BIG g) (hf:0<g.frames.length) (hd:d.args.length≤BIG):zfe g d=true∧zcr g d=(zbd g d,()):=by
 rw [zpE,zpD];unfold zmI zmJ zbd zCF zbX;have h1:=zah h;have ht:=zim h hf;have e2:decide ((g.frames.length:Int)>(0:Int))=true:=decide_eq_true (by omega)
 simp only [h1.1,h1.2,Int.toNat_natCast,zb0 h.1 hf,e2,cond_true,zbq (show g.frames.length - 1<g.frames.length by omega),Bool.true_and,decide_true,Bool.and_true,zeD hd (show 24≤200 by decide)]
 rw [show g.frames.getD (g.frames.length - 1) zo=topK g from rfl];exact ⟨zdS (Nat.succ_le_succ ht.2.1) (by decide),by trivial⟩
theorem zqj {g:Gor} {d:Dfr} (h:zaW BIG g) (hf:0<g.frames.length) (hd:d.args.length≤BIG):zcu g d=true∧zaX g d=(zbd g d,()):=by
 rw [zjg,zjf];unfold zgL zgM zbd zCF zbX;have h1:=ze4 h;have ht:=zim h hf;have e2:((g.frames.length:Int)==(0:Int))=false:=beq_eq_false_iff_ne.2 (by omega)
 simp only [h1.1,h1.2,Int.toNat_natCast,zb0 h.1 hf,e2,cond_false,zbq (show g.frames.length - 1<g.frames.length by omega),Bool.true_and,decide_true,Bool.and_true,zeD hd (show 24≤200 by decide)]
 rw [show g.frames.getD (g.frames.length - 1) zo=topK g from rfl];exact ⟨zdS (Nat.succ_le_succ ht.2.1) (by decide),by trivial⟩
def goP (o:Ob):List Ob→Bool→List Ob×Bool
 |[],d=>([],d)
 |x::l,d=>((bif !d&&decide (x.id≥o.id) then [o] else [])++((bif x.id != o.id then [x] else [])++(goP o l (d||decide (x.id≥o.id))).1),(goP o l (d||decide (x.id≥o.id))).2)
def zIU (o:Ob) (l:List Ob):List Ob:=bif (goP o l false).2 then (goP o l false).1 else (goP o l false).1++[o]
theorem zC1 (o:Ob):∀(l:List Ob) (d:Bool),(goP o l d).1.length≤l.length+(bif d then 0 else 1)
 |[],d=>by simp [goP]
 |x::l,d=>by
  have ih:=zC1 o l (d||decide (x.id≥o.id));unfold goP;rw [zNo,zNo,List.length_cons];cases d<;>cases hd:decide (x.id≥o.id)<;>cases (x.id != o.id)<;>rw [hd] at ih<;>simp at ih ⊢ <;>omega
theorem zKH {a:Mac} {o:Ob} {l:List Ob} (h:zau BIG a) (hl:a.objects=l) (ho:zB5 BIG o):
  X_wok (zda a o) (ziR a o) X_N ([],false,(0:Int),())=true∧zd (zda a o) ([],false,()) X_N ([],false,(0:Int),())=((goP o l false).1,(goP o l false).2,()):=by
 have hB:l.length≤68719476736:=by rw [←hl];exact h.1.1
 have hc:=zfa h;have hco:=zde ho;have:=zeS (step:=zda a o) (ok:=ziR a o) (d:=([],false,())) (fun x=>∃j:Nat,x.2.2.1=(j:Int)∧j≤l.length∧x.1.length≤j+(bif x.2.1 then 1 else 0)) (fun x=>l.length - x.2.2.1.toNat)
  (fun x=>(x.1++(goP o (l.drop x.2.2.1.toNat) x.2.1).1,(goP o (l.drop x.2.2.1.toNat) x.2.1).2,()))
  (fun x hx=>by
   obtain ⟨acc,dn,x3,u⟩:=x;obtain ⟨j,hj,hjl,hlen⟩:=hx;simp only at hj hlen ⊢;subst hj;unfold zda ziR;simp only [hc.2,hco.1,hco.2,hl,Int.toNat_natCast];by_cases hlt:j<l.length
   ·have hw:IntKind.i64.wrap ((j:Int)+(1:Int))=((j+1:Nat):Int):=by rw [zav (by omega) (by omega)];rfl
    have hd:l.drop j=l.getD j dOb::l.drop (j+1):=by
     rw [List.drop_eq_getElem_cons hlt,List.getD_eq_getElem?_getD,zNg hlt];rfl
    have s1:∀k,k≤j+2→decide ((k+1)*144≤140737488355328)=true:=fun k hk=>decide_eq_true (by omega)
    rw [hd];generalize l.getD j dOb=y;simp only [zcI hlt,zaj hlt,cond_true,Bool.true_and,hw,goP];cases dn with
    |true=>
     simp only [cond_true] at hlen;simp only [Bool.not_true,cond_false,Bool.false_and,Bool.true_or];cases hne:(y.id != o.id) with
     |true=>
      simp only [cond_true,cond_false,s1 acc.length (by omega)]
      exact ⟨by trivial, .inl ⟨_,by trivial,⟨j+1,by trivial,hlt,by simp;omega⟩,by simp only [Int.toNat_natCast];omega,by simp [List.append_assoc]⟩⟩
     |false=>
      simp only [cond_true,cond_false];exact ⟨by trivial, .inl ⟨_,by trivial,⟨j+1,by trivial,hlt,by simp only [cond_true];omega⟩,by simp only [Int.toNat_natCast];omega,by simp [List.append_assoc]⟩⟩
    |false=>
     simp only [cond_false,Nat.add_zero] at hlen;simp only [Bool.not_false,cond_true,Bool.true_and,Bool.false_or];have s2:decide (((acc++[o]).length+1)*144≤140737488355328)=true:=s1 _ (by simp;omega)
     cases hge:decide (y.id≥o.id) with
     |true=>
      cases hne:(y.id != o.id) with
      |true=>
       simp only [cond_true,s1 acc.length (by omega),s2,Bool.and_self]
       exact ⟨by trivial, .inl ⟨_,by trivial,⟨j+1,by trivial,hlt,by simp;omega⟩,by simp only [Int.toNat_natCast];omega,by simp [List.append_assoc]⟩⟩
      |false=>
       simp only [cond_true,cond_false,s1 acc.length (by omega),Bool.and_self]
       exact ⟨by trivial, .inl ⟨_,by trivial,⟨j+1,by trivial,hlt,by simp;omega⟩,by simp only [Int.toNat_natCast];omega,by simp [List.append_assoc]⟩⟩
     |false=>
      cases hne:(y.id != o.id) with
      |true=>
       simp only [cond_true,cond_false,s1 acc.length (by omega)]
       exact ⟨by trivial, .inl ⟨_,by trivial,⟨j+1,by trivial,hlt,by simp;omega⟩,by simp only [Int.toNat_natCast];omega,by simp [List.append_assoc]⟩⟩
      |false=>
       simp only [cond_true,cond_false];exact ⟨by trivial, .inl ⟨_,by trivial,⟨j+1,by trivial,hlt,by simp only [cond_false];omega⟩,by simp only [Int.toNat_natCast];omega,by simp [List.append_assoc]⟩⟩
   ·obtain rfl:j=l.length:=by omega
    simp only [zcV,cond_false];exact ⟨by trivial, .inr ⟨_,by trivial,by simp [goP]⟩⟩) (n:=X_N) (i:=([],false,(0:Int),())) ⟨0,rfl,zNk _,by simp⟩ (by
   show l.length - 0<X_N;have:X_N=4611686018427387904:=rfl;omega)
 simpa using this
theorem zD1 {a:Mac} {o:Ob} (h:zau BIG a) (ho:zB5 BIG o):zoa a o=true∧zlq a o=(⟨zIU o a.objects,a.syncs,a.goroutines,a.output⟩,()):=by
 have hB:a.objects.length≤68719476736:=h.1.1;have hc:=zfa h;have hco:=zde ho;have hp:=zKH h rfl ho;have hlen:=zC1 o a.objects false;simp only [cond_false] at hlen;rw [zvY,zvX];unfold ztL ztM zIU;simp only [hc.1,hc.2,hco.1,hco.2,hp.1,hp.2,Bool.true_and];cases (goP o a.objects false).2 with
 |true=>exact ⟨by trivial,by trivial⟩
 |false=>
  simp only [Bool.not_false,cond_true,cond_false];exact ⟨decide_eq_true (by omega),by trivial⟩
theorem zmv (x:Ob) (l:List Ob) (b:Int):placeK (x::l) b=if b≤x.id then 0 else placeK l b+1:=by
 unfold placeK;rw [List.findIdx_cons];by_cases h:b≤x.id<;>simp [h]
theorem zyN {x:Ob} {l:List Ob} (h:zbv (x::l)):zbv l∧∀y∈l,x.id<y.id:=by
 refine ⟨fun s t hst ht=>?_,fun y hy=>?_⟩
 ·have:=h (s+1) (t+1) (by omega) (by simp;omega)
  simpa using this
 ·obtain ⟨i,hi,rfl⟩:=List.mem_iff_getElem.1 hy;have:=h 0 (i+1) (by omega) (by simp;omega)
  simpa [List.getD,hi] using this
theorem zzw {o:Ob}:∀{l:List Ob},(∀y∈l,o.id<y.id)→goP o l true=(l,true)
 |[],_=>rfl
 |x::l,h=>by
  unfold goP;have hx:=h x (List.mem_cons_self ..);have e:(x.id != o.id)=true:=bne_iff_ne.2 (by omega)
  rw [Bool.true_or,zzw fun y hy=>h y (List.mem_cons_of_mem _ hy),e];rfl
theorem zDN {o:Ob}:∀{l:List Ob},zbv l→zIU o l=l.take (placeK l o.id)++[o]++l.drop (placeK l o.id+bif za4 l o.id then 1 else 0)
 |[],_=>rfl
 |x::l,h=>by
  obtain ⟨h1,h2⟩:=zyN h;rw [zmv];unfold zIU goP;by_cases hle:o.id≤x.id
  ·have e:decide (x.id≥o.id)=true:=decide_eq_true hle;have hgt:∀y∈l,o.id<y.id:=fun y hy=>by have:=h2 y hy;omega
   rw [if_pos hle];simp only [Bool.not_false,Bool.true_and,e,cond_true,Bool.false_or,zzw hgt];have hf:za4 (x::l) o.id=(x.id==o.id):=by
    unfold za4;rw [zmv,if_pos hle];simp
   rw [hf];cases he:(x.id==o.id) with
   |true=>
    have:(x.id != o.id)=false:=by rw [bne,he];rfl
    simp [this]
   |false=>
    have:(x.id != o.id)=true:=by rw [bne,he];rfl
    simp [this]
  ·have e:decide (x.id≥o.id)=false:=decide_eq_false hle;have hne:(x.id != o.id)=true:=bne_iff_ne.2 (by omega)
   rw [if_neg hle];have ih:=zDN (o:=o) h1;unfold zIU at ih;have hf:za4 (x::l) o.id=za4 l o.id:=by
    unfold za4;rw [zmv,if_neg hle];simp
   rw [hf];simp only [e,hne,Bool.not_false,Bool.and_false,Bool.or_self,cond_false,cond_true,List.nil_append];rw [show placeK l o.id+1+(bif za4 l o.id then 1 else 0)=(placeK l o.id+(bif za4 l o.id then 1 else 0))+1 by omega,List.take_succ_cons,List.drop_succ_cons]
   have e2:x::List.take (placeK l o.id) l++[o]++List.drop (placeK l o.id+bif za4 l o.id then 1 else 0) l=x::(List.take (placeK l o.id) l++[o]++List.drop (placeK l o.id+bif za4 l o.id then 1 else 0) l):=rfl
   rw [e2, ←ih];cases (goP o l false).2<;>rfl
theorem ziu {l:List Ob} {b:Int}:zdq l b ()=zby l b ()∧zit l b ()=ziw l b ():=by
 rw [zru,zsL,zrt,zsK];exact ⟨rfl,rfl⟩
def zIP (l:List Ob) (o:Ob):List Ob:=l.take (placeK l o.id)++[o]++l.drop (placeK l o.id)
def idK (m:Mac) (k:Nat):Int:=1+(k:Int)+8*(gorK m k).allocs
def znC (o:Ob) (id:Int):Ob:=⟨id,o.cells_,o.chan,o.cap,o.queue,o.closed,o.sent,o.received,o.senders,o.receivers⟩
def zaC (m:Mac) (k:Nat):Bool:=decide (0≤(gorK m k).allocs)&&decide ((gorK m k).allocs<200)
def zbP (m:Mac) (k:Nat) (o:Ob):Mac:=⟨zIP m.objects (znC o (idK m k)),m.syncs,m.goroutines.set k ⟨(gorK m k).state,(gorK m k).fault,(gorK m k).allocs+1,(gorK m k).frames⟩,m.output⟩
theorem zC7 {m:Mac} {k:Nat} (hk8:k<8) (ha:zaC m k=true):IntKind.i64.wrap (IntKind.i64.wrap ((1:Int)+(k:Int))+IntKind.i64.wrap ((8:Int)*(gorK m k).allocs))=idK m k:=by
 unfold zaC at ha;simp only [Bool.and_eq_true,decide_eq_true_eq] at ha;unfold idK;have e1:IntKind.i64.wrap ((1:Int)+(k:Int))=1+(k:Int):=zav (by omega) (by omega)
 have e2:IntKind.i64.wrap ((8:Int)*(gorK m k).allocs)=8*(gorK m k).allocs:=zav (by omega) (by omega)
 rw [e1,e2,zav (by omega) (by omega)]
theorem zGn {o:Ob} {l:List Ob} (hs:zbv l) (hn:za4 l o.id=false):zIU o l=zIP l o:=by
 rw [zDN hs,hn];rfl
theorem zyc {m:Mac} {k:Nat} {o:Ob} (h:zau BIG m) (ho:zB5 BIG o) (hs:zbv m.objects) (hk:k<m.goroutines.length) (hk8:k<8) (hnew:za4 m.objects (idK m k)=false):
  zjH m k o=true∧(zaC m k=true→zcp m k o=(zbP m k o,idK m k,0,()))∧(zaC m k=false→((zcp m k o).2.2.1 != 0)=true):=by
 rw [zpi,zph];unfold zmx zmy;have e1:decide ((k:Int)<(0:Int))=false:=decide_eq_false (by omega)
 have e2:decide ((k:Int)≥(m.goroutines.length:Int))=false:=decide_eq_false (by omega)
 have e3:decide ((k:Int)≥(8:Int))=false:=decide_eq_false (by omega)
 rw [show m.goroutines.getD (Int.toNat (k:Int)) zan=gorK m k from rfl];simp only [e1,e2,e3,zbq hk,Bool.not_false,cond_true,cond_false,Bool.true_and,Int.toNat_natCast];cases ha:zaC m k with
 |true=>
  have hid:=zC7 hk8 ha;have ha':=ha;unfold zaC at ha';simp only [Bool.and_eq_true,decide_eq_true_eq] at ha';have e4:decide ((gorK m k).allocs<(0:Int))=false:=decide_eq_false (by omega)
  have e5:decide ((gorK m k).allocs≥(200:Int))=false:=decide_eq_false (by omega)
  have hp:=zD1 (o:=znC o (idK m k)) h ho;unfold znC at hp;have e6:IntKind.i64.wrap ((gorK m k).allocs+(1:Int))=(gorK m k).allocs+1:=zav (by omega) (by omega)
  simp only [hid,e4,e5,e6,hp.1,hp.2,Bool.not_false,cond_true,cond_false,Bool.true_and,zbq hk];refine ⟨by trivial,fun _=>?_,fun e=>(by cases e)⟩
  have hn:=zGn (o:=znC o (idK m k)) hs hnew;unfold znC at hn;rw [hn];rfl
 |false=>
  refine ⟨?_,fun e=>(by cases e),fun _=>?_⟩
  ·cases h4:decide ((gorK m k).allocs<(0:Int)) with
   |true=>rfl
   |false=>
    have e5:decide ((gorK m k).allocs≥(200:Int))=true:=by
     unfold zaC at ha;have h4:=of_decide_eq_false h4;refine decide_eq_true ?_;by_cases h5:(gorK m k).allocs<200
     ·rw [decide_eq_true h5,decide_eq_true (by omega)] at ha;cases ha
     ·omega
    simp only [e5,Bool.not_false,cond_true]
  ·cases h4:decide ((gorK m k).allocs<(0:Int)) with
   |true=>rfl
   |false=>
    have e5:decide ((gorK m k).allocs≥(200:Int))=true:=by
     unfold zaC at ha;have h4:=of_decide_eq_false h4;refine decide_eq_true ?_;by_cases h5:(gorK m k).allocs<200
     ·rw [decide_eq_true h5,decide_eq_true (by omega)] at ha;cases ha
     ·omega
    simp only [e5,Bool.not_false,cond_true];rfl
def zs8 (m:Mac) (k:Nat) (r:Int) (o:Ob):Mac:=bif zaC m k then zn9 (zbP m k o) k r ⟨2,idK m k,0⟩ else zds m k 9
theorem zhJ {m:Mac} {k:Nat} {o:Ob} (hk:k<m.goroutines.length):gorK (zbP m k o) k=⟨(gorK m k).state,(gorK m k).fault,(gorK m k).allocs+1,(gorK m k).frames⟩:=by
 unfold zbP gorK;simp [List.getD,hk]
theorem zbH {m:Mac} {k:Nat} {o:Ob}:(zbP m k o).goroutines.length=m.goroutines.length:=by
 unfold zbP;simp
theorem zwf {m:Mac} {k:Nat} {r:Int} {o:Ob} (h:zau BIG m) (ho:zB5 BIG o) (hs:zbv m.objects) (hk:k<m.goroutines.length) (hk8:k<8) (hf:0<(gorK m k).frames.length) (hnew:za4 m.objects (idK m k)=false) (hA:zaC m k=true→zau BIG (zbP m k o)):
  zdh m k r o=true∧zdi m k r o=(zs8 m k r o,()):=by
 have ha:=zyc h ho hs hk hk8 hnew;rw [znq,znp];unfold zkF zkG zs8;cases hb:zaC m k with
 |true=>
  have e:=ha.2.1 hb;have hp:=zwk (k:=k) (r:=r) (v:=⟨2,idK m k,0⟩) (hA hb) (by rw [zbH];exact hk) (by rw [zhJ hk];exact hf)
  simp only [ha.1,e,hp.1,hp.2,cond_true,Bool.true_and,bne_self_eq_false,cond_false];exact ⟨by trivial,by trivial⟩
 |false=>
  have e:=ha.2.2 hb;have hp:=zhu (fault:=9) h hk;simp only [ha.1,e,hp.1,hp.2,cond_true,Bool.true_and,cond_false];exact ⟨by trivial,by trivial⟩
def bump (g:Gor):Gor:=zbX g (pcF (topK g) (IntKind.i64.wrap ((topK g).pc+(1:Int))))
def zgi (p:Prg) (m:Mac) (k:Nat) (fn:Int) (args:List Val) (dest:Int):Option Mac:=(zbw p (bump (gorK m k)) fn args dest).map (fun x=>zai m k x)
theorem zfr {p:Prg} {g x:Gor} {fn:Int} {args:List Val} {dest:Int} (e:zbw p g fn args dest=some x):x=⟨g.state,g.fault,g.allocs,g.frames++[zIQ fn (p.funcs.getD fn.toNat dFnc).regs args dest]⟩:=by
 unfold zbw at e;revert e;cases (inR p.funcs fn&&((args.length:Int)==(p.funcs.getD fn.toNat dFnc).params)&& !decide ((g.frames.length:Int)≥32)) with
 |true=>intro e;exact (zM8 e).symm
 |false=>intro e;cases e
theorem zoG {p:Prg} {g x:Gor} {fn:Int} {args:List Val} {dest:Int} (e:zbw p g fn args dest=some x):(inR p.funcs fn&&((args.length:Int)==(p.funcs.getD fn.toNat dFnc).params)&& !decide ((g.frames.length:Int)≥32))=true:=by
 unfold zbw at e;revert e;cases (inR p.funcs fn&&((args.length:Int)==(p.funcs.getD fn.toNat dFnc).params)&& !decide ((g.frames.length:Int)≥32)) with
 |true=>intro _;rfl
 |false=>intro e;cases e
theorem zCJ {p:Prg} {g x:Gor} {fn:Int} {args:List Val} {dest:Int} (hp:zml p) (h:zaW BIG g) (e:zbw p g fn args dest=some x):zaW BIG x:=by
 have hc:=zoG e;rw [zfr e];simp only [Bool.and_eq_true,Bool.not_eq_true',decide_eq_false_iff_not,beq_iff_eq] at hc;obtain ⟨⟨c1,c2⟩,c3⟩:=hc;unfold inR at c1;have c1:=of_decide_eq_true c1;obtain ⟨q1,q2,q3⟩:=hp (p.funcs.getD fn.toNat dFnc) (getD_mem (by omega))
 have hB:=zc4;refine ⟨?_,fun f hf=>?_⟩
 ·show (g.frames++[_]).length≤BIG;rw [zNo,hB];simp only [List.length_cons,List.length_nil];omega
 ·rcases List.mem_append.1 hf with hf|hf
  ·exact h.2 f hf
  ·rw [List.mem_singleton.1 hf];refine ⟨?_,?_,fun d hd=>(by cases hd)⟩
   ·show (args++List.replicate _ zjY).length≤BIG;rw [zNo,List.length_replicate];omega
   ·exact zNk _
theorem zxC {N:Nat} {g:Gor} (h:zaW N g) (hf:0<g.frames.length):zaW N (bump g):=zf7 h (zz9 (zim h hf))
theorem zxM {p:Prg} {g:Gor} {fn:Int} {args:List Val} {dest:Int} (hf:0<g.frames.length):
  zbw p (bump g) fn args dest=(zbw p g fn args dest).map (fun x=>⟨x.state,x.fault,x.allocs,x.frames.set (x.frames.length - 2) (pcF (topK g) (IntKind.i64.wrap ((topK g).pc+(1:Int))))⟩):=by
 unfold zbw;have e:(bump g).frames.length=g.frames.length:=zco _ _;rw [e];cases (inR p.funcs fn&&((args.length:Int)==(p.funcs.getD fn.toNat dFnc).params)&& !decide ((g.frames.length:Int)≥32)) with
 |false=>rfl
 |true=>
  show some _=some _;congr 1;unfold bump zbX;congr 1;show _=(g.frames++[_]).set ((g.frames++[_]).length - 2) _;rw [zNo,List.length_singleton,List.set_append_left _ _ (by omega)]
  rfl
theorem zpU {p:Prg} {m:Mac} {k:Nat} {fn:Int} {args:List Val} {dest:Int} (hp:zml p) (h:zau BIG m) (ha:args.length≤BIG) (hk:k<m.goroutines.length) (hf:0<(gorK m k).frames.length):
  r23enter_o p m k fn args dest=true∧zea p m k fn args dest=((zgi p m k fn args dest).getD (zds m k 9),()):=by
 rw [zpW,zpV];unfold zmU zmV zgi;have h1:=zt0 h hk hf;have h2:=zjK (pc:=IntKind.i64.wrap ((topK (gorK m k)).pc+(1:Int))) h hk hf;have hg:zaW BIG (gorK m k):=zcD h hk;have hj:zk8 m k (IntKind.i64.wrap ((topK (gorK m k)).pc+(1:Int)))=zai m k (bump (gorK m k)):=rfl;have e0:List.getD (zai m k (bump (gorK m k))).goroutines (Int.toNat (k:Int)) zan=bump (gorK m k):=zT hk;have hb:=zxC hg hf;have h3:=zkB (fn:=fn) (dest:=dest) hp hb ha;have hl:k<(zai m k (bump (gorK m k))).goroutines.length:=by rw [zas];exact hk
 simp only [h1.1,h1.2,h2.1,h2.2,hj,e0,h3.1,Bool.true_and,zbq hl];revert h3;cases he:zbw p (bump (gorK m k)) fn args dest with
 |none=>
  intro h3;have e1:=h3.2;have h4:=zhu (fault:=9) h hk;simp only [e1,cond_true,h4.1,h4.2];exact ⟨by trivial,by trivial⟩
 |some x=>
  intro h3;have e1:=h3.2;have h4:=zhv (zjS h hb) (zCJ hp hb he) hl;simp only [e1,bne_self_eq_false,cond_false,h4.1,h4.2,zh6];exact ⟨by trivial,by trivial⟩
theorem zuX {p:Prg} {x:Vmx} {k:Nat} {fn:Int} {args:List Val} {dest:Int} (hp:zml p) (h:zau BIG x.m) (hk:k<x.m.goroutines.length) (hf:0<(gorK x.m k).frames.length):
  zkV p x k fn args dest=true∧zhI p x k fn args dest=match zgi p x.m k fn args dest with|some m'=>(⟨m',x.events,x.gs⟩,0,())|none=>(x,9,()):=by
 rw [zuZ,zuY];unfold zte ztf zgi;have hg:zaW BIG (gorK x.m k):=zcD h hk;have h3:=zjh (fn:=fn) (args:=args) (dest:=dest) hp hg;rw [show x.m.goroutines.getD (Int.toNat (k:Int)) zan=gorK x.m k from rfl,zxM hf];simp only [h3.1,Bool.true_and,zbq hk];revert h3;cases he:zbw p (gorK x.m k) fn args dest with
 |none=>
  intro h3;have e1:=h3.2;simp only [e1,cond_true];exact ⟨by trivial,by trivial⟩
 |some y=>
  intro h3;have e1:=h3.2;have hy:=zfr he;have hl:y.frames.length=(gorK x.m k).frames.length+1:=by rw [hy];show (_++[_]).length=_;rw [zNo];rfl
  have hB:=zc4;have hF:=hg.1;have ew:IntKind.i64.wrap ((y.frames.length:Int) - (2:Int))=((y.frames.length - 2:Nat):Int):=by rw [zav (by omega) (by omega)];omega
  have et:y.frames.getD (y.frames.length - 2) zo=topK (gorK x.m k):=by
   rw [hl,hy];show (_++[_]).getD _ _=_;unfold topK;rw [show (gorK x.m k).frames.length+1 - 2=(gorK x.m k).frames.length - 1 by omega]
   simp only [List.getD,zNh (show (gorK x.m k).frames.length - 1<(gorK x.m k).frames.length by omega)]
  simp only [e1,bne_self_eq_false,cond_false,ew,Int.toNat_natCast,et,zbq (show y.frames.length - 2<y.frames.length by omega)]
  exact ⟨by trivial,by trivial⟩
noncomputable def zmY (a:Bool):Val×Unit:=bif a then ((zaM (1:Int)).fst,()) else ((zaM (0:Int)).fst,())
noncomputable def zmZ (a:Bool):Bool:=bif a then zb7 (1:Int) else zb7 (0:Int)
noncomputable def zec:=hide zmY
noncomputable def zeb:=hide zmZ
theorem zp2:zec=zmY:=zb _
theorem zp1:zeb=zmZ:=zb _
noncomputable def zBK:Ctr:=zcB [.v false (.bool)] [.own (.st .val)] (uu1 zeb) (uu1 zec)
noncomputable def zBL:TT:=T0.a zjN
theorem zwo:zi Tryz.prog 229 zBK:=zcS Tryz.f229 zBL (congrArg uu1 zp1) (congrArg uu1 zp2) 1 6 (fun _=>noA) 0x40000
noncomputable def zgF (a:Int) (b:Val) (c:Val):Val×Int×Unit:=let x1:=b.kind==c.kind&&(b.n==c.n&&(b.off==c.off&&true));
bif a==(4:Int) then ((zaM (IntKind.i64.wrap ((zg b).fst+(zg c).fst))).fst,(0:Int),()) else bif a==(5:Int) then ((zaM (IntKind.i64.wrap ((zg b).fst - (zg c).fst))).fst,(0:Int),()) else bif a==(6:Int) then ((zaM (IntKind.i64.wrap ((zg b).fst*(zg c).fst))).fst,(0:Int),()) else bif a==(11:Int) then ((zec x1).fst,(0:Int),()) else bif a==(12:Int) then ((zec !x1).fst,(0:Int),()) else bif a==(13:Int) then ((zec (decide ((zg b).fst<(zg c).fst))).fst,(0:Int),()) else bif a==(14:Int) then ((zec (decide ((zg b).fst≤(zg c).fst))).fst,(0:Int),()) else bif (zg c).fst==(0:Int) then (Val.mk (0:Int) (0:Int) (0:Int),(3:Int),()) else bif a==(7:Int) then ((zaM (IntKind.i64.wrap (Int.tdiv (zg b).fst (zg c).fst))).fst,(0:Int),()) else ((zaM (Int.tmod (zg b).fst (zg c).fst)).fst,(0:Int),())
noncomputable def zgG (a:Int) (b:Val) (c:Val):Bool:=let x1:=b.kind==c.kind&&(b.n==c.n&&(b.off==c.off&&true));
let x2:=decide ((zg c).fst≠(0:Int));
zbr b&&(zbr c&&bif a==(4:Int) then zb7 (IntKind.i64.wrap ((zg b).fst+(zg c).fst)) else bif a==(5:Int) then zb7 (IntKind.i64.wrap ((zg b).fst - (zg c).fst)) else bif a==(6:Int) then zb7 (IntKind.i64.wrap ((zg b).fst*(zg c).fst)) else bif a==(11:Int) then zeb x1 else bif a==(12:Int) then zeb !x1 else bif a==(13:Int) then zeb (decide ((zg b).fst<(zg c).fst)) else bif a==(14:Int) then zeb (decide ((zg b).fst≤(zg c).fst)) else bif (zg c).fst==(0:Int) then true else bif a==(7:Int) then x2&&zb7 (IntKind.i64.wrap (Int.tdiv (zg b).fst (zg c).fst)) else x2&&zb7 (Int.tmod (zg b).fst (zg c).fst))
noncomputable def zF:=hide zgF
noncomputable def zel:=hide zgG
theorem zi1:zF=zgF:=zb _
theorem zi0:zel=zgG:=zb _
noncomputable def zq3:Ctr:=zcB [.v false (.int .i64), .v false (.st .val), .v false (.st .val)] [.own (.st .val), .own (.int .i64)] (uu3 zel) (uu3 zF)
noncomputable def zq4:TT:=((T0.a zgH).a zjN).a zwo
theorem znM:zi Tryz.prog 148 zq3:=zcS Tryz.f148 zq4 (congrArg uu3 zi0) (congrArg uu3 zi1) 1 70 (fun _=>noA) 0x1000000000000000000000000000000000
def zt (p:Prg) (m:Mac) (c:Val):Int×Bool:=
 bif c.kind != 2 then (0,false) else bif (loadK m ⟨2,c.n,0⟩).2 != 0 then (0,false) else bif (loadK m ⟨2,c.n,0⟩).1.kind != 0 then (0,false) else
 bif inR p.funcs (loadK m ⟨2,c.n,0⟩).1.n&& !((p.funcs.getD (loadK m ⟨2,c.n,0⟩).1.n.toNat dFnc).params != 1) then ((loadK m ⟨2,c.n,0⟩).1.n,true) else (0,false)
theorem zzt (p:Prg) (x:Int):
  (bif !decide (x<(0:Int)) then bif !decide (x≥(p.funcs.length:Int)) then bif (p.funcs.getD (Int.toNat x) dFnc).params != (1:Int) then ((0:Int),false,()) else (x,true,()) else ((0:Int),false,()) else ((0:Int),false,()))
   =((bif inR p.funcs x&& !((p.funcs.getD x.toNat dFnc).params != 1) then (x,true) else (0,false)).1,(bif inR p.funcs x&& !((p.funcs.getD x.toNat dFnc).params != 1) then (x,true) else (0,false)).2,())
  ∧(bif !decide (x<(0:Int)) then bif !decide (x≥(p.funcs.length:Int)) then decide ((0:Int)≤x∧x<(p.funcs.length:Int)) else true else true)=true:=by
 unfold inR;rcases zaN x p.funcs.length with h1|h1|⟨h1,h2⟩
 ·have e1:decide (x<(0:Int))=true:=decide_eq_true h1;have e3:decide ((0:Int)≤x∧x<(p.funcs.length:Int))=false:=decide_eq_false (by omega)
  simp only [e1,e3,Bool.not_true,cond_false,Bool.false_and];exact ⟨by trivial,by trivial⟩
 ·have e1:decide (x<(0:Int))=false:=decide_eq_false (by omega)
  have e2:decide (x≥(p.funcs.length:Int))=true:=decide_eq_true h1;have e3:decide ((0:Int)≤x∧x<(p.funcs.length:Int))=false:=decide_eq_false (by omega)
  simp only [e1,e2,e3,Bool.not_true,Bool.not_false,cond_false,cond_true,Bool.false_and];exact ⟨by trivial,by trivial⟩
 ·have e1:decide (x<(0:Int))=false:=decide_eq_false (by omega)
  have e2:decide (x≥(p.funcs.length:Int))=false:=decide_eq_false (by omega)
  have e3:decide ((0:Int)≤x∧x<(p.funcs.length:Int))=true:=decide_eq_true (by omega)
  simp only [e1,e2,e3,Bool.not_false,cond_true,Bool.true_and];cases ((p.funcs.getD x.toNat dFnc).params != 1)<;>exact ⟨by trivial,by trivial⟩
theorem ztY {p:Prg} {m:Mac} {c:Val} (h:zau BIG m):zeA p m c=true∧zbV p m c=((zt p m c).1,(zt p m c).2,()):=by
 rw [zlE,zlD];unfold zi2 zi3 zt;have hl:=zr5 (v:=⟨2,c.n,0⟩) h;simp only [hl.1,hl.2,Bool.true_and];generalize loadK m ⟨2,c.n,0⟩=q;have hf:=zzt p q.1.n;cases (c.kind != 2) with
 |true=>exact ⟨by trivial,by trivial⟩
 |false=>cases (q.2 != 0) with
  |true=>exact ⟨by trivial,by trivial⟩
  |false=>cases (q.1.kind != 0) with
   |true=>exact ⟨by trivial,by trivial⟩
   |false=>
    simp only [Bool.not_false,cond_true,cond_false];exact ⟨hf.2,hf.1⟩
theorem zxG {v:Vm} {c:Val} (h:zau BIG v.m) (hs:zbv v.m.objects):zgY v c=true∧zdm v c=((zt v.p v.m c).1,(zt v.p v.m c).2,()):=by
 have hb:=zjv (b:=c.n) hs h.1.1;rw [zov,zou];unfold zmf zmg zt loadK zgg;rw [zjx hs];simp only [hb.1,hb.2,Int.toNat_natCast,Bool.true_and];cases (c.kind != 2) with
 |true=>exact ⟨by trivial,by trivial⟩
 |false=>
  cases hfd:za4 v.m.objects c.n with
  |false=>exact ⟨by trivial,by trivial⟩
  |true=>
   simp only [cond_false,cond_true,Bool.not_true,zbq (zk2 hfd)];generalize v.m.objects.getD (placeK v.m.objects c.n) dOb=o;cases o.chan with
   |true=>exact ⟨by trivial,by trivial⟩
   |false=>
    simp only [cond_false];have hz:Int.toNat 0=0:=rfl;unfold inR;rcases zNl o.cells_.length with h0|h0
    ·have e1:decide ((0:Int)≥(o.cells_.length:Int))=true:=decide_eq_true (by omega)
     have e2:decide ((0:Int)≤(0:Int)∧(0:Int)<(o.cells_.length:Int))=false:=decide_eq_false (by omega)
     simp only [e1,e2,cond_true,cond_false];exact ⟨by trivial,by trivial⟩
    ·have e1:decide ((0:Int)≥(o.cells_.length:Int))=false:=decide_eq_false (by omega)
     have e2:decide ((0:Int)≤(0:Int)∧(0:Int)<(o.cells_.length:Int))=true:=decide_eq_true (by omega)
     have hf:=zzt v.p (o.cells_.getD (Int.toNat 0) zjY).n;simp only [e1,e2,cond_true,cond_false,Bool.true_and,bne_self_eq_false];cases ((o.cells_.getD (Int.toNat 0) zjY).kind != 0) with
     |true=>exact ⟨by trivial,by trivial⟩
     |false=>
      simp only [Bool.not_false,cond_true,cond_false];exact ⟨hf.2,hf.1⟩
def zga (v:Val):Int:=bif v.kind==0 then v.n else 0
theorem zdI (v:Val):zbr v=true∧zg v=(zga v,()):=by
 rw [zlG,zlF];unfold zi4 zi5 zga;exact ⟨rfl,by cases (v.kind==0)<;>rfl⟩
theorem zf4 (v:Val):zbc v=true∧zab v=(zga v,()):=by
 rw [zil,zik];unfold zf5 zf6 zga;exact ⟨rfl,by cases (v.kind==0)<;>rfl⟩
theorem zeB (n:Int):zb7 n=true∧zaM n=(⟨0,n,0⟩,()):=by
 rw [zwj,zwi];exact ⟨rfl,rfl⟩
def zux (m:Mac) (k:Nat) (i:Ins):Int:=zga (zac (gorK m k) i.b)
def zrO (p:Prg) (m:Mac) (k:Nat) (i:Ins):Ob:=
 bif i.op==21 then ⟨0,(p.layouts.getD i.b.toNat []).map zro,false,0,[],false,0,0,[],[]⟩
 else bif i.op==24 then ⟨0,[⟨0,i.b,0⟩]++argsK (gorK m k) (IntKind.i64.wrap (i.a+(1:Int))) i.c,false,0,[],false,0,0,[],[]⟩
 else bif i.op==23 then ⟨0,[],true,zux m k i,[],false,0,0,[],[]⟩
 else ⟨0,List.replicate (zux m k i).toNat ⟨0,0,0⟩,false,0,[],false,0,0,[],[]⟩
def zce (m:Mac) (k:Nat) (i:Ins):Bool:= !(i.op==21)&&(!(i.op==24)&&(decide (zux m k i<0)||decide (zux m k i>64)))
def zx6 (p:Prg) (i:Ins):Prop:=((i.op==21)=true→0≤i.b∧i.b<(p.layouts.length:Int))∧((i.op==24)=true→i.c<(BIG:Int))
theorem zeq (g:Gor) (a n:Int):(argsK g a n).length=n.toNat:=by unfold argsK;simp
theorem zH8 {p:Prg} {m:Mac} {k:Nat} {i:Ins} (hP:zqC BIG p) (hi:zx6 p i) (hb:zce m k i=false):zB5 BIG (zrO p m k i):=by
 have hB:=zc4;unfold zrO;cases h1:i.op==21 with
 |true=>
  have:=hi.1 h1;have hl:=hP.2.2.2 _ (getD_mem (d:=([]:List Int)) (show i.b.toNat<p.layouts.length by omega))
  exact ⟨by show (List.map zro _).length≤BIG;rw [List.length_map];exact hl,zNk _,zNk _,zNk _⟩
 |false=>cases h2:i.op==24 with
  |true=>
   have:=hi.2 h2;exact ⟨by show (_++argsK _ _ _).length≤BIG;rw [zNo,zeq,List.length_singleton];omega,zNk _,zNk _,zNk _⟩
  |false=>
   unfold zce at hb;rw [h1,h2] at hb;simp only [Bool.not_false,Bool.true_and,Bool.or_eq_false_iff,decide_eq_false_iff_not] at hb;cases i.op==23 with
   |true=>exact ⟨zNk _,zNk _,zNk _,zNk _⟩
   |false=>exact ⟨by show (List.replicate _ _).length≤BIG;rw [List.length_replicate];omega,zNk _,zNk _,zNk _⟩
def zkP (p:Prg) (m:Mac) (k:Nat) (i:Ins):Mac:=bif zce m k i then zds m k 7 else zs8 m k i.a (zrO p m k i)
theorem zqZ {p:Prg} {m:Mac} {k:Nat} {i:Ins} (hP:zqC BIG p) (hi:zx6 p i) (h:zau BIG m) (hs:zbv m.objects) (hk:k<m.goroutines.length) (hk8:k<8) (hf:0<(gorK m k).frames.length) (hnew:za4 m.objects (idK m k)=false)
  (hA:zce m k i=false→zaC m k=true→zau BIG (zbP m k (zrO p m k i))):
  zb5 p m k i=true∧zb6 p m k i=(zkP p m k i,()):=by
 have hB:=zc4;have hg:=zcD h hk;rw [zka,zj9];unfold zhV zhW zkP;have hr:=zpJ (r:=i.b) hg.1;have hn:=zdI (zac (gorK m k) i.b);rw [show m.goroutines.getD (Int.toNat (k:Int)) zan=gorK m k from rfl];simp only [hr.1,hr.2,hn.1,hn.2,(zeB _).1,(zeB _).2,zbq hk,Bool.true_and];rw [show zga (zac (gorK m k) i.b)=zux m k i from rfl];cases hb:zce m k i with
 |true=>
  have hF:=zhu (fault:=7) h hk;unfold zce at hb;simp only [Bool.and_eq_true,Bool.not_eq_true',Bool.or_eq_true] at hb;obtain ⟨h1,h2,h3⟩:=hb;simp only [h1,h2,cond_false,cond_true];cases h4:decide (zux m k i<0) with
  |true=>simp only [Bool.not_true,cond_false,hF.1,hF.2,and_self]
  |false=>
   rw [h4] at h3;have h3:decide (zux m k i>64)=true:=by rcases h3 with h3|h3;·cases h3
                                                        ·exact h3
   simp only [h3,Bool.not_false,cond_true,hF.1,hF.2,and_self]
 |false=>
  have hsz:=zH8 hP hi hb;have hC:=zwf (r:=i.a) h hsz hs hk hk8 hf hnew (hA hb);revert hC hsz;unfold zrO;cases h1:i.op==21 with
  |true=>
   have hi1:=hi.1 h1;have hl:=hP.2.2.2 _ (getD_mem (d:=([]:List Int)) (show i.b.toNat<p.layouts.length by omega))
   have hc:=zyl hl;have e1:decide ((0:Int)≤i.b∧i.b<(p.layouts.length:Int))=true:=decide_eq_true hi1;intro hsz hC;simp only [cond_true] at hC;simp only [cond_true,cond_false,hc.1,hc.2,e1,Bool.true_and,hC.1,hC.2,and_self]
  |false=>cases h2:i.op==24 with
   |true=>
    have hi2:=hi.2 h2;have ha:=zf1 (from_:=IntKind.i64.wrap (i.a+(1:Int))) (n:=i.c) hg.1 (by omega)
    intro hsz hC;have e1:decide ((1+(argsK (gorK m k) (IntKind.i64.wrap (i.a+(1:Int))) i.c).length)*24≤140737488355328)=true:=zdS (by rw [zeq];omega) (by decide)
    simp only [cond_true,cond_false] at hC;simp only [cond_true,cond_false,ha.1,ha.2,e1,Bool.true_and,hC.1,hC.2,and_self]
   |false=>
    unfold zce at hb;rw [h1,h2] at hb;simp only [Bool.not_false,Bool.true_and,Bool.or_eq_false_iff] at hb;have hx:=of_decide_eq_false hb.1;have hy:=of_decide_eq_false hb.2;intro hsz hC;cases h3:i.op==23 with
    |true=>
     rw [h3] at hC;simp only [cond_true,cond_false] at hC;simp only [cond_true,cond_false,hb.1,hb.2,Bool.not_false,hC.1,hC.2,and_self]
    |false=>
     rw [h3] at hC;have e1:decide (True∧(0:Int)≤zux m k i∧((24:Nat):Int)*zux m k i≤(281474976710656:Int))=true:=decide_eq_true ⟨trivial,by omega,by omega⟩
     simp only [cond_false] at hC;simp only [cond_true,cond_false,hb.1,hb.2,Bool.not_false,e1,Bool.true_and,hC.1,hC.2,and_self]
theorem zAJ {p:Prg} {x:Vmx} {k:Nat} {i:Ins} (hP:zqC BIG p) (hi:zx6 p i) (h:zau BIG x.m) (hs:zbv x.m.objects) (hk:k<x.m.goroutines.length) (hk8:k<8) (hf:0<(gorK x.m k).frames.length):
  zfp p x k i=true∧za1 p x k i=bif zce x.m k i then (x,⟨0,0,0⟩,7,()) else bif zaC x.m k then (⟨zbP x.m k (zrO p x.m k i),x.events,x.gs⟩,⟨2,idK x.m k,0⟩,0,()) else (x,⟨0,0,0⟩,9,()):=by
 have hB:=zc4;have hg:=zcD h hk;rw [zry,zrx];unfold zoy zoz;have hr:=zt5 (v:=⟨p,x.m,x.events,x.gs⟩) (k:=k) (r:=i.b) h hk hf;have hn:=zf4 (zac (gorK x.m k) i.b);rw [show x.m.goroutines.getD (Int.toNat (k:Int)) zan=gorK x.m k from rfl];have hr1:zii (⟨p,x.m,x.events,x.gs⟩:Vm) (k:Int) i.b=true:=hr.1;have hr2:zeC (⟨p,x.m,x.events,x.gs⟩:Vm) (k:Int) i.b=(zac (gorK x.m k) i.b,()):=hr.2;simp only [hr1,hr2,hn.1,hn.2,(zh8 _).1,(zh8 _).2,zbq hk,Bool.true_and];rw [show zga (zac (gorK x.m k) i.b)=zux x.m k i from rfl];have hob:∀o:Ob,o.id=0→zrO p x.m k i=o→(bif !decide ((gorK x.m k).allocs<(0:Int)) then bif decide ((gorK x.m k).allocs≥(200:Int)) then (x,Val.mk (0:Int) (0:Int) (0:Int),(9:Int),()) else (Vmx.mk (Mac.mk (List.take (Int.toNat (zdq x.m.objects (IntKind.i64.wrap (IntKind.i64.wrap ((1:Int)+(k:Int))+IntKind.i64.wrap ((8:Int)*(gorK x.m k).allocs))) ()).fst) x.m.objects++[znC o (IntKind.i64.wrap (IntKind.i64.wrap ((1:Int)+(k:Int))+IntKind.i64.wrap ((8:Int)*(gorK x.m k).allocs)))]++List.drop (Int.toNat (zdq x.m.objects (IntKind.i64.wrap (IntKind.i64.wrap ((1:Int)+(k:Int))+IntKind.i64.wrap ((8:Int)*(gorK x.m k).allocs))) ()).fst) x.m.objects) x.m.syncs (List.set x.m.goroutines (Int.toNat (k:Int)) (Gor.mk (gorK x.m k).state (gorK x.m k).fault (IntKind.i64.wrap ((gorK x.m k).allocs+(1:Int))) (gorK x.m k).frames)) x.m.output) x.events x.gs,Val.mk (2:Int) (IntKind.i64.wrap (IntKind.i64.wrap ((1:Int)+(k:Int))+IntKind.i64.wrap ((8:Int)*(gorK x.m k).allocs))) (0:Int),(0:Int),()) else (x,Val.mk (0:Int) (0:Int) (0:Int),(9:Int),()))
   =bif zaC x.m k then (⟨zbP x.m k (zrO p x.m k i),x.events,x.gs⟩,⟨2,idK x.m k,0⟩,0,()) else (x,⟨0,0,0⟩,9,()):=by
  intro o _ ho;rw [ho];cases ha:zaC x.m k with
  |true=>
   have hid:=zC7 hk8 ha;have ha':=ha;unfold zaC at ha';simp only [Bool.and_eq_true,decide_eq_true_eq] at ha';have e4:decide ((gorK x.m k).allocs<(0:Int))=false:=decide_eq_false (by omega)
   have e5:decide ((gorK x.m k).allocs≥(200:Int))=false:=decide_eq_false (by omega)
   have e6:IntKind.i64.wrap ((gorK x.m k).allocs+(1:Int))=(gorK x.m k).allocs+1:=zav (by omega) (by omega)
   have hb:=zjv (b:=idK x.m k) hs h.1.1;simp only [e4,e5,e6,hid,ziu.1,hb.2,Bool.not_false,cond_true,cond_false,Int.toNat_natCast];rfl
  |false=>
   unfold zaC at ha;cases h4:decide ((gorK x.m k).allocs<(0:Int)) with
   |true=>rfl
   |false=>
    have h4':=of_decide_eq_false h4;have e5:decide ((gorK x.m k).allocs≥(200:Int))=true:=by
     refine decide_eq_true ?_;by_cases h5:(gorK x.m k).allocs<200
     ·rw [decide_eq_true h5,decide_eq_true (by omega)] at ha;cases ha
     ·omega
    simp only [e5,Bool.not_false,cond_true,cond_false]
 have hok:(bif !decide ((gorK x.m k).allocs<(0:Int)) then bif decide ((gorK x.m k).allocs≥(200:Int)) then true else zit x.m.objects (IntKind.i64.wrap (IntKind.i64.wrap ((1:Int)+(k:Int))+IntKind.i64.wrap ((8:Int)*(gorK x.m k).allocs))) ()&&decide ((0:Int)≤(zdq x.m.objects (IntKind.i64.wrap (IntKind.i64.wrap ((1:Int)+(k:Int))+IntKind.i64.wrap ((8:Int)*(gorK x.m k).allocs))) ()).fst∧Int.toNat (zdq x.m.objects (IntKind.i64.wrap (IntKind.i64.wrap ((1:Int)+(k:Int))+IntKind.i64.wrap ((8:Int)*(gorK x.m k).allocs))) ()).fst≤x.m.objects.length∧(x.m.objects.length+(1:Nat))*(144:Nat)≤(140737488355328:Nat)) else true)=true:=by
  have hb:=zjv (b:=IntKind.i64.wrap (IntKind.i64.wrap ((1:Int)+(k:Int))+IntKind.i64.wrap ((8:Int)*(gorK x.m k).allocs))) hs h.1.1;have hz:=of_decide_eq_true (zdS (Nat.succ_le_succ h.1.1) (show 144≤200 by decide))
  have e1:∀n:Nat,n≤x.m.objects.length→decide ((0:Int)≤(n:Int)∧n≤x.m.objects.length∧(x.m.objects.length+(1:Nat))*(144:Nat)≤(140737488355328:Nat))=true:=fun n hn=>decide_eq_true ⟨by omega,hn,hz⟩
  simp only [ziu.1,ziu.2,hb.1,hb.2,Int.toNat_natCast,Bool.true_and,e1 _ (zjE _ _)];cases decide ((gorK x.m k).allocs<(0:Int))<;>cases decide ((gorK x.m k).allocs≥(200:Int))<;>rfl
 unfold znC at hob;cases h1:i.op==21 with
 |true=>
  have hi1:=hi.1 h1;have hl:=hP.2.2.2 _ (getD_mem (d:=([]:List Int)) (show i.b.toNat<p.layouts.length by omega))
  have key:=zsA (l:=p.layouts.getD i.b.toNat []) (d0:=(0:Int)) (f:=zro) (step:=ze6 p x k i) (ok:=zgZ p x k i) (d:=([],())) hl
   (fun j acc hj ha=>by
    unfold ze6 zgZ zro;simp only [Int.toNat_natCast,zcI hj,zaj hj,cond_true,Bool.true_and,(zh8 _).1,(zh8 _).2,zdS (show acc.length+1≤BIG+1 by omega) (show 24≤200 by decide)]
    cases ((p.layouts.getD i.b.toNat []).getD j 0==1)<;>exact ⟨by trivial,by trivial⟩)
   (fun acc=>by
    unfold ze6 zgZ;simp only [zcV,cond_false,and_self])
  have e1:decide ((0:Int)≤i.b∧i.b<(p.layouts.length:Int))=true:=decide_eq_true hi1;have hO:=hob ⟨0,(p.layouts.getD i.b.toNat []).map zro,false,0,[],false,0,0,[],[]⟩ rfl (by unfold zrO;rw [h1];rfl)
  have hN:zce x.m k i=false:=by unfold zce;rw [h1];rfl
  simp only [cond_true,e1,key.1,key.2,Bool.true_and,hN,cond_false];exact ⟨hok,hO⟩
 |false=>cases h2:i.op==24 with
  |true=>
   have hi2:=hi.2 h2;have ha:=zsH (v:=⟨p,x.m,x.events,x.gs⟩) (k:=k) (from_:=IntKind.i64.wrap (i.a+(1:Int))) (n:=i.c) h hk hf (by omega)
   have ha1:zgt (⟨p,x.m,x.events,x.gs⟩:Vm) (k:Int) (IntKind.i64.wrap (i.a+(1:Int))) i.c=true:=ha.1;have ha2:zgu (⟨p,x.m,x.events,x.gs⟩:Vm) (k:Int) (IntKind.i64.wrap (i.a+(1:Int))) i.c=(argsK (gorK x.m k) (IntKind.i64.wrap (i.a+(1:Int))) i.c,()):=ha.2;have e1:decide ((1+(argsK (gorK x.m k) (IntKind.i64.wrap (i.a+(1:Int))) i.c).length)*24≤140737488355328)=true:=zdS (by rw [zeq];omega) (by decide)
   have hO:=hob ⟨0,[⟨0,i.b,0⟩]++argsK (gorK x.m k) (IntKind.i64.wrap (i.a+(1:Int))) i.c,false,0,[],false,0,0,[],[]⟩ rfl (by unfold zrO;rw [h1,h2];rfl)
   have hN:zce x.m k i=false:=by unfold zce;rw [h1,h2];rfl
   simp only [cond_true,cond_false,ha1,ha2,e1,Bool.true_and,hN];exact ⟨hok,hO⟩
  |false=>
   have hNb:zce x.m k i=(decide (zux x.m k i<0)||decide (zux x.m k i>64)):=by unfold zce;rw [h1,h2];rfl
   cases h4:decide (zux x.m k i<0) with
   |true=>
    rw [h4] at hNb;simp only [hNb,Bool.true_or,Bool.not_true,cond_true,cond_false];exact ⟨by trivial,by trivial⟩
   |false=>cases h5:decide (zux x.m k i>64) with
    |true=>
     rw [h4,h5] at hNb;simp only [hNb,Bool.false_or,Bool.not_false,cond_true,cond_false];exact ⟨by trivial,by trivial⟩
    |false=>
     rw [h4,h5] at hNb;have hx:=of_decide_eq_false h4;have hy:=of_decide_eq_false h5;have e1:decide (True∧(0:Int)≤zux x.m k i∧((24:Nat):Int)*zux x.m k i≤(281474976710656:Int))=true:=decide_eq_true ⟨trivial,by omega,by omega⟩
     cases h3:i.op==23 with
     |true=>
      have hO:=hob ⟨0,[],true,zux x.m k i,[],false,0,0,[],[]⟩ rfl (by unfold zrO;rw [h1,h2,h3];rfl)
      simp only [hNb,Bool.false_or,Bool.not_false,cond_true,cond_false];exact ⟨hok,hO⟩
     |false=>
      have hO:=hob ⟨0,List.replicate (zux x.m k i).toNat ⟨0,0,0⟩,false,0,[],false,0,0,[],[]⟩ rfl (by unfold zrO;rw [h1,h2,h3];rfl)
      simp only [hNb,Bool.false_or,Bool.not_false,cond_true,cond_false,e1,Bool.true_and];exact ⟨hok,hO⟩
def znA (b:Bool):Val:=bif b then ⟨0,1,0⟩ else ⟨0,0,0⟩
theorem zp0 (b:Bool):zeb b=true∧zec b=(znA b,()):=by
 rw [zp2,zp1];unfold zmY zmZ znA;simp only [(zeB _).1,(zeB _).2];cases b<;>exact ⟨rfl,rfl⟩
theorem zwV (b:Bool):zb8 b=true∧zb9 b=(znA b,()):=by
 rw [zke,zkd];unfold zh2 zh3 znA;simp only [(zh8 _).1,(zh8 _).2];cases b<;>exact ⟨rfl,rfl⟩
def zJO (b c:Val):Bool:=b.kind==c.kind&&(b.n==c.n&&(b.off==c.off&&true))
def zG0 (n:Int):Val:=⟨0,n,0⟩
def zqN (op:Int) (b c:Val):Val×Int:=
 bif op==4 then (zG0 (IntKind.i64.wrap (zga b+zga c)),0) else bif op==5 then (zG0 (IntKind.i64.wrap (zga b - zga c)),0) else bif op==6 then (zG0 (IntKind.i64.wrap (zga b*zga c)),0)
 else bif op==11 then (znA (zJO b c),0) else bif op==12 then (znA (!zJO b c),0) else bif op==13 then (znA (decide (zga b<zga c)),0) else bif op==14 then (znA (decide (zga b≤zga c)),0)
 else bif zga c==0 then (zjY,3) else bif op==7 then (zG0 (IntKind.i64.wrap (Int.tdiv (zga b) (zga c))),0) else (zG0 (Int.tmod (zga b) (zga c)),0)
theorem ziZ (op:Int) (b c:Val):zel op b c=true∧zF op b c=((zqN op b c).1,(zqN op b c).2,()):=by
 rw [zi1,zi0];unfold zgF zgG zqN;simp only [(zeB _).1,(zeB _).2,(zp0 _).1,(zp0 _).2,(zdI _).1,(zdI _).2,Bool.true_and];cases (op==4) with
 |true=>exact ⟨by trivial,by trivial⟩
 |false=>cases (op==5) with
  |true=>exact ⟨by trivial,by trivial⟩
  |false=>cases (op==6) with
   |true=>exact ⟨by trivial,by trivial⟩
   |false=>cases (op==11) with
    |true=>exact ⟨by trivial,by trivial⟩
    |false=>cases (op==12) with
     |true=>exact ⟨by trivial,by trivial⟩
     |false=>cases (op==13) with
      |true=>exact ⟨by trivial,by trivial⟩
      |false=>cases (op==14) with
       |true=>exact ⟨by trivial,by trivial⟩
       |false=>
        cases hz:(zga c==0) with
        |true=>exact ⟨by trivial,by trivial⟩
        |false=>
         have e1:decide (zga c≠(0:Int))=true:=decide_eq_true (by intro e;rw [e] at hz;cases hz)
         simp only [e1,cond_false];cases (op==7)<;>exact ⟨by trivial,by trivial⟩
def zgf (p:Prg) (m:Mac) (k:Nat) (i:Ins):Mac×Val×Int:=
 bif zce m k i then (m,⟨0,0,0⟩,7) else bif zaC m k then (zbP m k (zrO p m k i),⟨2,idK m k,0⟩,0) else (m,⟨0,0,0⟩,9)
def znd (p:Prg) (m:Mac) (k:Nat) (i:Ins):Mac×Val×Int:=
 bif i.op==1 then (m,zG0 i.b,0) else bif i.op==2 then (m,⟨1,0,0⟩,0) else bif i.op==3 then (m,zac (gorK m k) i.b,0)
 else bif i.op==9 then (m,zG0 (IntKind.i64.wrap ((0:Int) - zga (zac (gorK m k) i.b))),0) else bif i.op==10 then (m,zG0 (IntKind.i64.wrap ((1:Int) - zga (zac (gorK m k) i.b))),0)
 else bif i.op==15 then (m,zrd m (zac (gorK m k) i.b)) else bif i.op==18 then (m,⟨2,0,i.b⟩,0)
 else bif i.op==19 then (m,zgp m (zac (gorK m k) i.b) (IntKind.i64.wrap ((zac (gorK m k) i.b).off+i.c)))
 else bif i.op==20 then (m,zgp m (zac (gorK m k) i.b) (zga (zac (gorK m k) i.c)))
 else bif i.op==21||i.op==22||i.op==23||i.op==24 then zgf p m k i
 else bif i.op==25 then (m,loadK m ⟨(zac (gorK m k) 0).kind,(zac (gorK m k) 0).n,IntKind.i64.wrap (i.b+(1:Int))⟩)
 else (m,zqN i.op (zac (gorK m k) i.b) (zac (gorK m k) i.c))
def zJ8 (op:Int):Prop:=1≤op∧op≤25∧op≠16∧op≠17
theorem zAB (l:List Val) (x:Int):
  (bif !decide (x<(0:Int)) then bif decide (x≥(l.length:Int)) then true else decide ((0:Int)≤x∧x<(l.length:Int)) else true)=true:=by
 rcases zaN x l.length with h1|h1|⟨h1,h2⟩
 ·rw [decide_eq_true h1];rfl
 ·rw [decide_eq_false (show ¬x<0 by omega),decide_eq_true (show x≥(l.length:Int) from h1)];rfl
 ·rw [decide_eq_false (show ¬x<0 by omega),decide_eq_false (show ¬x≥(l.length:Int) by omega),decide_eq_true (show 0≤x∧x<(l.length:Int) from ⟨h1,h2⟩)];rfl
def zDn (x:Vmx) (l:List Val) (c:Int) (w:Val):Vmx×Val×Int×Unit:=
 bif !decide (c<(0:Int)) then bif decide (c≥(l.length:Int)) then (x,w,(2:Int),()) else (x,l.getD (Int.toNat c) zjY,(0:Int),()) else (x,w,(2:Int),())
def zl1 (x:Vmx) (r:Vmx×Val×Int×Unit) (q:Mac×Val×Int):Prop:=
 r.2.2.1=q.2.2∧(q.2.2=0→r=(⟨q.1,x.events,x.gs⟩,q.2.1,0,()))∧(q.2.2≠0→r.1=x)
theorem zl2 {x:Vmx} {m:Mac} {v:Val} (h:m=x.m):zl1 x (x,v,0,()) (m,v,0):=⟨rfl,fun _=>by rw [h],fun e=>absurd rfl e⟩
theorem zB6 {x:Vmx} {q:Val×Int}:zl1 x (x,q.1,q.2,()) (x.m,q):=⟨rfl,fun (e:q.2=0)=>(by rw [e]),fun _=>rfl⟩
theorem zc3 {x:Vmx} {v w:Val} {m:Mac} {f:Int} (h:f≠0):zl1 x (x,v,f,()) (m,w,f):=⟨rfl,fun e=>absurd e h,fun _=>rfl⟩
theorem zDo (x:Vmx) (l:List Val) (c:Int) (w:Val):zl1 x (zDn x l c w) (x.m,bif inR l c then (l.getD c.toNat zjY,0) else (zjY,2)):=by
 unfold zDn inR;rcases zaN c l.length with h1|h1|⟨h1,h2⟩
 ·rw [decide_eq_true h1,decide_eq_false (show ¬(0≤c∧c<(l.length:Int)) by omega)];exact zc3 (by decide)
 ·rw [decide_eq_false (show ¬c<0 by omega),decide_eq_true (show c≥(l.length:Int) from h1),decide_eq_false (show ¬(0≤c∧c<(l.length:Int)) by omega)];exact zc3 (by decide)
 ·rw [decide_eq_false (show ¬c<0 by omega),decide_eq_false (show ¬c≥(l.length:Int) by omega),decide_eq_true (show 0≤c∧c<(l.length:Int) from ⟨h1,h2⟩)];exact zl2 rfl
theorem zCk {x:Vmx} {p:Prg} {k:Nat} {i:Ins} {r:Vmx×Val×Int×Unit}
  (e:r=bif zce x.m k i then (x,⟨0,0,0⟩,7,()) else bif zaC x.m k then (⟨zbP x.m k (zrO p x.m k i),x.events,x.gs⟩,⟨2,idK x.m k,0⟩,0,()) else (x,⟨0,0,0⟩,9,())):
  zl1 x (r.1,r.2.1,r.2.2.1,()) (zgf p x.m k i):=by
 rw [e];unfold zgf;cases zce x.m k i with
 |true=>exact zc3 (f:=7) (by decide)
 |false=>cases zaC x.m k with
  |true=>exact ⟨rfl,fun _=>rfl,fun e=>absurd rfl e⟩
  |false=>exact zc3 (f:=9) (by decide)
theorem zxI {p:Prg} {x:Vmx} {k:Nat} {i:Ins} (hP:zqC BIG p) (hi:zx6 p i) (h:zau BIG x.m) (hs:zbv x.m.objects) (hk:k<x.m.goroutines.length) (hk8:k<8) (hf:0<(gorK x.m k).frames.length) (ho:zJ8 i.op):
  zjw p x k i=true∧zl1 x (zbz p x k i) (znd p x.m k i):=by
 rw [zox,zow];unfold zmh zmi znd;have hr:∀r:Int,zii (⟨p,x.m,x.events,x.gs⟩:Vm) (k:Int) r=true∧zeC (⟨p,x.m,x.events,x.gs⟩:Vm) (k:Int) r=(zac (gorK x.m k) r,()):=fun r=>zt5 (v:=⟨p,x.m,x.events,x.gs⟩) h hk hf;have hz:∀b:Val,zqh (⟨p,x.m,x.events,x.gs⟩:Vm) b=true∧zm4 (⟨p,x.m,x.events,x.gs⟩:Vm) b=((zrd x.m b).1,(zrd x.m b).2,()):=fun b=>zGE (v:=⟨p,x.m,x.events,x.gs⟩) h hs;have hq:∀(b:Val) (o:Int),zjP (⟨p,x.m,x.events,x.gs⟩:Vm) b o=true∧zgq (⟨p,x.m,x.events,x.gs⟩:Vm) b o=((zgp x.m b o).1,(zgp x.m b o).2,()):=fun b o=>zEe (v:=⟨p,x.m,x.events,x.gs⟩) h hs;have hC:=zAJ (x:=x) (k:=k) hP hi h hs hk hk8 hf;have hA:=zCk hC.2;simp only [(hr _).1,(hr _).2,(hz _).1,(hz _).2,(hq _ _).1,(hq _ _).2,(zf4 _).1,(zf4 _).2,(zh8 _).1,(zh8 _).2,(zwV _).1,(zwV _).2,hC.1,Bool.true_and];obtain ⟨op,ia,ib,ic⟩:=i;obtain ⟨o1,o2,o3,o4⟩:=ho;have hcases:op=1∨op=2∨op=3∨op=4∨op=5∨op=6∨op=7∨op=8∨op=9∨op=10∨op=11∨op=12∨op=13∨op=14∨op=15∨op=18∨op=19∨op=20∨op=21∨op=22∨op=23∨op=24∨op=25:=by
  simp only at o1 o2 o3 o4;omega
 clear o1 o2 o3 o4;rcases hcases with e|e|e|e|e|e|e|e|e|e|e|e|e|e|e|e|e|e|e|e|e|e|e<;>subst e
 case inr.inr.inr.inr.inr.inr.inl=>
  show (bif zga (zac (gorK x.m k) ic)==0 then true else decide (zga (zac (gorK x.m k) ic)≠0)&&true)=true∧zl1 x (bif zga (zac (gorK x.m k) ic)==0 then (x,⟨0,0,0⟩,3,()) else _) (x.m,zqN 7 _ _)
  unfold zqN;cases hz:(zga (zac (gorK x.m k) ic)==0) with
  |true=>exact ⟨rfl,zc3 (by decide)⟩
  |false=>exact ⟨by rw [decide_eq_true (by intro e;rw [e] at hz;cases hz)];rfl,zl2 rfl⟩
 case inr.inr.inr.inr.inr.inr.inr.inl=>
  show (bif zga (zac (gorK x.m k) ic)==0 then true else decide (zga (zac (gorK x.m k) ic)≠0)&&true)=true∧zl1 x (bif zga (zac (gorK x.m k) ic)==0 then (x,⟨0,0,0⟩,3,()) else _) (x.m,zqN 8 _ _)
  unfold zqN;cases hz:(zga (zac (gorK x.m k) ic)==0) with
  |true=>exact ⟨rfl,zc3 (by decide)⟩
  |false=>exact ⟨by rw [decide_eq_true (by intro e;rw [e] at hz;cases hz)];rfl,zl2 rfl⟩
 case inr.inr.inr.inr.inr.inr.inr.inr.inr.inr.inr.inr.inr.inr.inr.inr.inr.inr.inr.inr.inr.inr=>
  have hb:=zjv (b:=(zac (gorK x.m k) 0).n) hs h.1.1;simp only [hb.1,hb.2,Int.toNat_natCast,Bool.true_and];show (bif (zac (gorK x.m k) 0).kind != 2 then true else bif !za4 x.m.objects (zac (gorK x.m k) 0).n then true else _)=true∧zl1 x (bif (zac (gorK x.m k) 0).kind != 2 then _ else _) (x.m,loadK x.m _)
  unfold loadK zgg;rw [zjx hs];cases ((zac (gorK x.m k) 0).kind != 2) with
  |true=>exact ⟨rfl,zc3 (by decide)⟩
  |false=>cases hfd:za4 x.m.objects (zac (gorK x.m k) 0).n with
   |false=>exact ⟨rfl,zc3 (by decide)⟩
   |true=>
    simp only [cond_false,cond_true,Bool.not_true,zbq (zk2 hfd),Bool.true_and];generalize x.m.objects.getD (placeK x.m.objects (zac (gorK x.m k) 0).n) dOb=o;cases o.chan with
    |true=>exact ⟨rfl,zc3 (by decide)⟩
    |false=>
     refine ⟨zAB _ _,?_⟩;have hl:=zDo x o.cells_ (IntKind.i64.wrap (ib+(1:Int))) ⟨(zac (gorK x.m k) 0).kind,(zac (gorK x.m k) 0).n,IntKind.i64.wrap (ib+(1:Int))⟩;unfold zDn at hl;revert hl;cases inR o.cells_ (IntKind.i64.wrap (ib+(1:Int)))<;>exact fun hl=>hl
 all_goals first
  |exact ⟨rfl,zl2 rfl⟩
  |exact ⟨rfl,hA⟩
  |exact ⟨rfl,zB6⟩
noncomputable def zyi (a:Prg) (b:Gor) (c:Val) (i0:(List Frm)×Unit):Snap:=⟨[(3, .ptr 9 0),(4, .ptr 10 0),(6, .ptr 12 0)],[(1,bV),(2,bT .none (.st .fnc) a.funcs 1),(3,bV),(4,bT .none (.st .glb) a.globals 3),(5,bV),(6,bT .none (RT.list (RT.int IntKind.i64)) a.layouts 5),(9,bC 32 [.lw 2 2 [] 4 a.funcs.length, .lw 4 4 [] 2 a.globals.length, .lw 6 6 [] 1 a.layouts.length,vI a.main]),(10,bC 63 [vI ((za b).fst.state),vI ((za b).fst.fault),vI ((za b).fst.allocs), .lw 16 16 [] 9 (List.length (i0.1))]),(12,bC 63 [vI 0,vI 0,vI 0,vN]),(15,bV),(16,bT .all (.st .frm) (i0.1) 15)],17⟩
noncomputable def ztO (a:Prg) (b:Gor) (c:Val) (u9:(List Frm)×Unit):Snap:=⟨[(4, .ptr 10 0),(6, .ptr 12 0)],[(10,bC 63 [vI ((za b).fst.state),vI ((za b).fst.fault),vI ((za b).fst.allocs), .lw 18 18 [] 9 (List.length (u9.1))]),(12,bC 63 [vI 0,vI 0,vI 0,vN]),(17,bV),(18,bT .all (.st .frm) (u9.1) 17)],19⟩
noncomputable def ztP (a:Prg) (b:Gor) (c:Val) (u9:Int×Int×Int×(List Frm)×Unit):Snap:=⟨[(6, .ptr 12 0)],[(12,bC 63 [vI (u9.1),vI (u9.2.1),vI (u9.2.2.1), .lw 26 26 [] 9 (List.length (u9.2.2.2.1))]),(25,bV),(26,bT .all (.st .frm) (u9.2.2.2.1) 25)],27⟩
noncomputable def zY (a:Prg) (b:Gor) (c:Val) (i0:(List Frm)×Unit):((List Frm)×Unit)⊕(Bool×((List Frm)×Unit)×(Int×Int×Int×(List Frm)×Unit)):=let x1:=(i0.fst.length:Int);
let x2:=IntKind.i64.wrap (x1 - (1:Int));
let x3:=Int.toNat x2;
let x4:=List.getD i0.fst x3 zo;
let x5:=x4.dest;
let x6:=x4.leaving;
let x7:=x4.result;
let x8:=x4.defers;
let x9:=Int.toNat (x2 - (0:Int));
let x10:=(x8.length:Int);
let x11:=Int.toNat (0:Int)+Int.toNat (IntKind.i64.wrap (x2 - (1:Int)));
let x12:=IntKind.i64.wrap (x10 - (1:Int));
let x13:=Int.toNat x12;
let x14:=List.getD i0.fst x11 zo;
let x15:=x14.regs;
let x16:=(x15.length:Int);
let x17:=List.set i0.fst x3 (Frm.mk x4.fn x4.pc x4.regs x5 (List.take (Int.toNat (x12 - (0:Int))) x8) x6 x7);
let x18:=(zbk a (Gor.mk (za b).fst.state (za b).fst.fault (za b).fst.allocs x17) (List.getD x8 x13 zoB).fn (sub (List.append [] [(x13,Nat.succ (0:Nat))]) (RT.st SN.dfr) x8).snd (-1:Int)).fst;
bif decide (x1>(0:Int)) then bif x6 then bif decide (x10>(0:Int)) then bif (zbk a (Gor.mk (za b).fst.state (za b).fst.fault (za b).fst.allocs x17) (List.getD x8 x13 zoB).fn (sub (List.append [] [(x13,Nat.succ (0:Nat))]) (RT.st SN.dfr) x8).snd (-1:Int)).snd.fst != (0:Int) then Sum.inr (false,([],()),(3:Int),(9:Int),(za b).fst.allocs,x17,()) else Sum.inr (false,([],()),x18.state,x18.fault,x18.allocs,x18.frames,()) else bif decide (x2>(0:Int)) then bif decide (x5≥(0:Int)) then bif decide (x5<x16) then Sum.inl (List.take x9 (List.drop (Int.toNat (0:Int)) (List.set i0.fst x11 (Frm.mk x14.fn x14.pc (List.set x15 (Int.toNat x5) x7) x14.dest x14.defers x14.leaving x14.result))),()) else Sum.inl (List.take x9 (List.drop (Int.toNat (0:Int)) i0.fst),()) else Sum.inl (List.take x9 (List.drop (Int.toNat (0:Int)) i0.fst),()) else Sum.inl (List.take x9 (List.drop (Int.toNat (0:Int)) i0.fst),()) else Sum.inr (true,(i0.fst,()),(0:Int),(0:Int),(0:Int),[],()) else Sum.inr (true,(i0.fst,()),(0:Int),(0:Int),(0:Int),[],())
noncomputable def zcL (a:Prg) (b:Gor) (c:Val) (i0:(List Frm)×Unit):Bool:=let x1:=(i0.fst.length:Int);
let x2:=IntKind.i64.wrap (x1 - (1:Int));
let x3:=Int.toNat x2;
let x4:=List.getD i0.fst x3 zo;
let x5:=x4.dest;
let x6:=x4.defers;
let x7:=x4.leaving;
let x8:=IntKind.i64.wrap (x2 - (1:Int));
let x9:=(x6.length:Int);
let x10:=(↑(Int.toNat (x2 - (0:Int))):Int);
let x11:=IntKind.i64.wrap (x9 - (1:Int));
let x12:=Int.toNat x11;
let x13:=(↑(List.length (List.getD i0.fst (Int.toNat (0:Int)+Int.toNat x8) zo).regs):Int);
bif decide (x1>(0:Int)) then decide ((0:Int)≤x2∧x2<x1)&&bif x7 then bif decide (x9>(0:Int)) then decide ((0:Int)≤x11∧x11<x9)&&(decide ((0:Int)≤(0:Int)∧(0:Int)≤x11∧x11≤x9)&&(decide ([(x3,4)]=[(x3,4)])&&zff a (Gor.mk (za b).fst.state (za b).fst.fault (za b).fst.allocs (List.set i0.fst x3 (Frm.mk x4.fn x4.pc x4.regs x5 (List.take (Int.toNat (x11 - (0:Int))) x6) x7 x4.result))) (List.getD x6 x12 zoB).fn (sub (List.append [] [(x12,Nat.succ (0:Nat))]) (RT.st SN.dfr) x6).snd (-1:Int))) else decide ((0:Int)≤(0:Int)∧(0:Int)≤x2∧x2≤x1)&&bif decide (x2>(0:Int)) then bif decide (x5≥(0:Int)) then decide ((0:Int)≤x8∧x8<x10)&&bif decide (x5<x13) then decide ((0:Int)≤x5∧x5<x13) else true else true else true else true else true
noncomputable def zmM (a:Prg) (b:Gor) (c:Val):Gor×Unit:=let x1:=(za b).fst.allocs;
let x2:=(za b).fst.fault;
let x3:=(za b).fst.frames;
let x4:=Int.toNat (IntKind.i64.wrap ((x3.length:Int) - (1:Int)));
let x5:=List.getD x3 x4 zo;
let x6:=(zd (zY a b c) (false,([],()),(0:Int),(0:Int),(0:Int),[],()) X_N (x3,())).snd.fst.fst;
let x7:=List.set x3 x4 (Frm.mk x5.fn x5.pc x5.regs x5.dest x5.defers true x5.result);
let x8:=List.getD x7 x4 zo;
let x9:=(zd (zY a b c) (false,([],()),(0:Int),(0:Int),(0:Int),[],()) X_N (List.set x7 x4 (Frm.mk x8.fn x8.pc x8.regs x8.dest x8.defers x8.leaving c),())).snd.fst.fst;
let y1:=zd (zY a b c) (false,([],()),(0:Int),(0:Int),(0:Int),[],()) X_N (x3,());
let y2:=zd (zY a b c) (false,([],()),(0:Int),(0:Int),(0:Int),[],()) X_N (List.set x7 x4 (Frm.mk x8.fn x8.pc x8.regs x8.dest x8.defers x8.leaving c),());
bif (x3.length:Int)==(0:Int) then ((za b).fst,()) else bif !x5.leaving then bif y2.fst then bif (x9.length:Int)==(0:Int) then (Gor.mk (2:Int) x2 x1 x9,()) else (Gor.mk (za b).fst.state x2 x1 x9,()) else (Gor.mk y2.snd.snd.fst y2.snd.snd.snd.fst y2.snd.snd.snd.snd.fst y2.snd.snd.snd.snd.snd.fst,()) else bif y1.fst then bif (x6.length:Int)==(0:Int) then (Gor.mk (2:Int) x2 x1 x6,()) else (Gor.mk (za b).fst.state x2 x1 x6,()) else (Gor.mk y1.snd.snd.fst y1.snd.snd.snd.fst y1.snd.snd.snd.snd.fst y1.snd.snd.snd.snd.snd.fst,())
noncomputable def zmN (a:Prg) (b:Gor) (c:Val):Bool:=let x1:=(za b).fst.frames;
let x2:=(x1.length:Int);
let x3:=IntKind.i64.wrap (x2 - (1:Int));
let x4:=Int.toNat x3;
let x5:=List.getD x1 x4 zo;
let x6:=List.set x1 x4 (Frm.mk x5.fn x5.pc x5.regs x5.dest x5.defers true x5.result);
let x7:=List.getD x6 x4 zo;
zS b&&bif x2==(0:Int) then true else decide ((0:Int)≤x3∧x3<x2)&&bif !x5.leaving then X_wok (zY a b c) (zcL a b c) X_N (List.set x6 x4 (Frm.mk x7.fn x7.pc x7.regs x7.dest x7.defers x7.leaving c),()) else X_wok (zY a b c) (zcL a b c) X_N (x1,())
noncomputable def zcX:=hide zmM
noncomputable def zfg:=hide zmN
theorem zpI:zcX=zmM:=zb _
theorem zpH:zfg=zmN:=zb _
noncomputable def zBz:Ctr:=zcB [.v true (.st .prg), .v false (.st .gor), .v false (.st .val)] [.own (.st .gor)] (uu3 zfg) (uu3 zcX)
noncomputable def zBy (a:Prg) (b:Gor) (c:Val):Nat→ze5:=fun q=>match q with|0=> .mk [⟨4,some 3,(.list (.st .frm))⟩] (zyi a b c) [⟨.exit 0,[⟨4,some 3,(.list (.st .frm))⟩],ztO a b c⟩,⟨.ret,[⟨6,some 0,(.int .i64)⟩,⟨6,some 1,(.int .i64)⟩,⟨6,some 2,(.int .i64)⟩,⟨6,some 3,(.list (.st .frm))⟩],ztP a b c⟩] (zY a b c) (zcL a b c) (H 0x1082082082082082082082082082082082082082082082082082082082004001041041001041041040041040000007000004001041001041041040) (fun (_:(List Frm)×Unit)=>fun _=> .no)|_=> .no
noncomputable def zBA:TT:=(T0.a zat).a ziU
theorem zv2:zi Tryz.prog 147 zBz:=zcS Tryz.f147 zBA (congrArg uu3 zpH) (congrArg uu3 zpI) 9 145 (uu3 zBy) 0x1000000000104000000 (fun zz=>zC [(0,(zaP 0 (bd Tryz.f147)))] (by kernel_rfl) ⟨fun _=>⟨by kernel_rfl,zm (by kernel_rfl)⟩,trivial⟩)
noncomputable def zmR (a:Prg) (b:Mac) (c:Int) (d:Ins):Mac×Unit:=let x1:=List.getD b.goroutines (Int.toNat c) zan;
let x2:=(zZ x1 d.a).fst;
let x3:=(zZ x1 d.b).fst;
let x4:=x3.kind;
let x5:=(zZ x1 (0:Int)).fst;
let x6:=(zg x3).fst;
let x7:=[x2];
let x8:=IntKind.i64.wrap ((zhX b c).fst+(1:Int));
let x9:=(zbV a b x2).fst;
let x10:=(r23arguments_s x1 d.c (List.getD a.funcs (Int.toNat d.b) dFnc).params).fst;
let x11:= !(zbV a b x2).snd.fst;
let x12:=(zF d.op x3 (zZ x1 d.c).fst).snd.fst;
let x13:=(zbl b x3 (zg (zZ x1 d.c).fst).fst).snd.fst;
let x14:=(zbl b x3 (IntKind.i64.wrap (x3.off+d.c))).snd.fst;
let x15:=(zcg b (Val.mk x5.kind x5.n (IntKind.i64.wrap (d.b+(1:Int))))).snd.fst;
bif d.op==(1:Int) then ((zaf b c d.a (zaM d.b).fst).fst,()) else bif d.op==(2:Int) then ((zaf b c d.a (Val.mk (1:Int) (0:Int) (0:Int))).fst,()) else bif d.op==(3:Int) then ((zaf b c d.a x3).fst,()) else bif d.op==(9:Int) then ((zaf b c d.a (zaM (IntKind.i64.wrap ((0:Int) - x6))).fst).fst,()) else bif d.op==(10:Int) then ((zaf b c d.a (zaM (IntKind.i64.wrap ((1:Int) - x6))).fst).fst,()) else bif d.op==(15:Int) then bif x4 != (1:Int) then bif !x4 != (2:Int) then bif !(zaS b x3.n).snd.fst then ((zK b c (1:Int)).fst,()) else ((zaf b c d.a (zaM (↑(List.length (zaS b x3.n).fst.cells_):Int)).fst).fst,()) else ((zK b c (1:Int)).fst,()) else ((zaf b c d.a (Val.mk (0:Int) (0:Int) (0:Int))).fst,()) else bif d.op==(16:Int) then ((zbL b c d.c).fst,()) else bif d.op==(17:Int) then bif (zg x2).fst==(0:Int) then ((zbL b c d.c).fst,()) else ((zbL b c x8).fst,()) else bif d.op==(18:Int) then ((zaf b c d.a (Val.mk (2:Int) (0:Int) d.b)).fst,()) else bif d.op==(19:Int) then bif x14 != (0:Int) then ((zK b c x14).fst,()) else ((zaf b c d.a (zbl b x3 (IntKind.i64.wrap (x3.off+d.c))).fst).fst,()) else bif d.op==(20:Int) then bif x13 != (0:Int) then ((zK b c x13).fst,()) else ((zaf b c d.a (zbl b x3 (zg (zZ x1 d.c).fst).fst).fst).fst,()) else bif d.op==(25:Int) then bif x15 != (0:Int) then ((zK b c x15).fst,()) else ((zaf b c d.a (zcg b (Val.mk x5.kind x5.n (IntKind.i64.wrap (d.b+(1:Int))))).fst).fst,()) else bif d.op==(21:Int) then ((zb6 a b c d).fst,()) else bif d.op==(22:Int) then ((zb6 a b c d).fst,()) else bif d.op==(23:Int) then ((zb6 a b c d).fst,()) else bif d.op==(24:Int) then ((zb6 a b c d).fst,()) else bif d.op==(26:Int) then ((zea a b c d.b x10 d.a).fst,()) else bif d.op==(28:Int) then ((zbL (zaT b c (zcr x1 (Dfr.mk d.b x10)).fst).fst c x8).fst,()) else bif d.op==(27:Int) then bif x11 then ((zK b c (1:Int)).fst,()) else ((zea a b c x9 x7 (-1:Int)).fst,()) else bif d.op==(29:Int) then bif x11 then ((zK b c (1:Int)).fst,()) else ((zbL (zaT b c (zcr x1 (Dfr.mk x9 x7)).fst).fst c x8).fst,()) else bif d.op==(30:Int) then bif decide (d.a<(0:Int)) then ((zaT b c (zcX a x1 (Val.mk (0:Int) (0:Int) (0:Int))).fst).fst,()) else ((zaT b c (zcX a x1 x2).fst).fst,()) else bif d.op==(4:Int) then bif x12 != (0:Int) then ((zK b c x12).fst,()) else ((zaf b c d.a (zF d.op x3 (zZ x1 d.c).fst).fst).fst,()) else bif d.op==(5:Int) then bif x12 != (0:Int) then ((zK b c x12).fst,()) else ((zaf b c d.a (zF d.op x3 (zZ x1 d.c).fst).fst).fst,()) else bif d.op==(6:Int) then bif x12 != (0:Int) then ((zK b c x12).fst,()) else ((zaf b c d.a (zF d.op x3 (zZ x1 d.c).fst).fst).fst,()) else bif d.op==(7:Int) then bif x12 != (0:Int) then ((zK b c x12).fst,()) else ((zaf b c d.a (zF d.op x3 (zZ x1 d.c).fst).fst).fst,()) else bif d.op==(8:Int) then bif x12 != (0:Int) then ((zK b c x12).fst,()) else ((zaf b c d.a (zF d.op x3 (zZ x1 d.c).fst).fst).fst,()) else bif d.op==(11:Int) then bif x12 != (0:Int) then ((zK b c x12).fst,()) else ((zaf b c d.a (zF d.op x3 (zZ x1 d.c).fst).fst).fst,()) else bif d.op==(12:Int) then bif x12 != (0:Int) then ((zK b c x12).fst,()) else ((zaf b c d.a (zF d.op x3 (zZ x1 d.c).fst).fst).fst,()) else bif d.op==(13:Int) then bif x12 != (0:Int) then ((zK b c x12).fst,()) else ((zaf b c d.a (zF d.op x3 (zZ x1 d.c).fst).fst).fst,()) else bif d.op==(14:Int) then bif x12 != (0:Int) then ((zK b c x12).fst,()) else ((zaf b c d.a (zF d.op x3 (zZ x1 d.c).fst).fst).fst,()) else ((zK b c (8:Int)).fst,())
noncomputable def zmS (a:Prg) (b:Mac) (c:Int) (d:Ins):Bool:=let x1:=List.getD b.goroutines (Int.toNat c) zan;
let x2:=zbb b c (1:Int);
let x3:=(zZ x1 d.c).fst;
let x4:=(zZ x1 d.b).fst;
let x5:=(zZ x1 d.a).fst;
let x6:=x4.kind;
let x7:=zbr x4;
let x8:=x4.n;
let x9:=zeA a b x5;
let x10:=(zZ x1 (0:Int)).fst;
let x11:=(zg x4).fst;
let x12:=(zg x3).fst;
let x13:=[x5];
let x14:=zbu x1 d.c (List.getD a.funcs (Int.toNat d.b) dFnc).params;
let x15:=IntKind.i64.wrap ((zhX b c).fst+(1:Int));
let x16:=(zbV a b x5).fst;
let x17:=(r23arguments_s x1 d.c (List.getD a.funcs (Int.toNat d.b) dFnc).params).fst;
let x18:= !(zbV a b x5).snd.fst;
let x19:=IntKind.i64.wrap (x4.off+d.c);
let x20:=Dfr.mk d.b x17;
let x21:=(↑(List.length (zaS b x8).fst.cells_):Int);
let x22:=zb7 x21;
let x23:=IntKind.i64.wrap ((1:Int) - x11);
let x24:=IntKind.i64.wrap ((0:Int) - x11);
let x25:=x22&&x2;
let x26:=(zF d.op x4 x3).snd.fst;
let x27:=(zcr x1 x20).fst;
let x28:=Dfr.mk x16 x13;
let x29:=(zbl b x4 x12).snd.fst;
let x30:=(zbl b x4 x19).snd.fst;
let x31:=(zcr x1 x28).fst;
let x32:=Val.mk x10.kind x10.n (IntKind.i64.wrap (d.b+(1:Int)));
let x33:=(zcg b x32).snd.fst;
let x34:=decide ((0:Int)≤d.b∧d.b<(a.funcs.length:Int));
let x35:=zel d.op x4 x3&&bif x26 != (0:Int) then zbb b c x26 else zbs b c d.a (zF d.op x4 x3).fst;
decide ((0:Int)≤c∧c<(b.goroutines.length:Int))&&(zek x1 d.a&&(zek x1 d.b&&(zek x1 d.c&&bif d.op==(1:Int) then zb7 d.b&&zbs b c d.a (zaM d.b).fst else bif d.op==(2:Int) then zbs b c d.a (Val.mk (1:Int) (0:Int) (0:Int)) else bif d.op==(3:Int) then zbs b c d.a x4 else bif d.op==(9:Int) then x7&&(zb7 x24&&zbs b c d.a (zaM x24).fst) else bif d.op==(10:Int) then x7&&(zb7 x23&&zbs b c d.a (zaM x23).fst) else bif d.op==(15:Int) then bif x6 != (1:Int) then zfO b x8&&bif !x6 != (2:Int) then bif !(zaS b x8).snd.fst then x25 else x22&&zbs b c d.a (zaM x21).fst else x25 else zbs b c d.a (Val.mk (0:Int) (0:Int) (0:Int)) else bif d.op==(16:Int) then zcm b c d.c else bif d.op==(17:Int) then zbr x5&&bif (zg x5).fst==(0:Int) then zcm b c d.c else zi6 b c&&zcm b c x15 else bif d.op==(18:Int) then zbs b c d.a (Val.mk (2:Int) (0:Int) d.b) else bif d.op==(19:Int) then zfh b x4 x19&&bif x30 != (0:Int) then zbb b c x30 else zbs b c d.a (zbl b x4 x19).fst else bif d.op==(20:Int) then zbr x3&&(zfh b x4 x12&&bif x29 != (0:Int) then zbb b c x29 else zbs b c d.a (zbl b x4 x12).fst) else bif d.op==(25:Int) then zek x1 (0:Int)&&(zhm b x32&&bif x33 != (0:Int) then zbb b c x33 else zbs b c d.a (zcg b x32).fst) else bif d.op==(21:Int) then zb5 a b c d else bif d.op==(22:Int) then zb5 a b c d else bif d.op==(23:Int) then zb5 a b c d else bif d.op==(24:Int) then zb5 a b c d else bif d.op==(26:Int) then x34&&(x14&&r23enter_o a b c d.b x17 d.a) else bif d.op==(28:Int) then x34&&(x14&&(zfe x1 x20&&(zcn b c x27&&(zi6 b c&&zcm (zaT b c x27).fst c x15)))) else bif d.op==(27:Int) then x9&&bif x18 then x2 else r23enter_o a b c x16 x13 (-1:Int) else bif d.op==(29:Int) then x9&&bif x18 then x2 else zfe x1 x28&&(zcn b c x31&&(zi6 b c&&zcm (zaT b c x31).fst c x15)) else bif d.op==(30:Int) then bif decide (d.a<(0:Int)) then zfg a x1 (Val.mk (0:Int) (0:Int) (0:Int))&&zcn b c (zcX a x1 (Val.mk (0:Int) (0:Int) (0:Int))).fst else zfg a x1 x5&&zcn b c (zcX a x1 x5).fst else bif d.op==(4:Int) then x35 else bif d.op==(5:Int) then x35 else bif d.op==(6:Int) then x35 else bif d.op==(7:Int) then x35 else bif d.op==(8:Int) then x35 else bif d.op==(11:Int) then x35 else bif d.op==(12:Int) then x35 else bif d.op==(13:Int) then x35 else bif d.op==(14:Int) then x35 else zbb b c (8:Int))))
noncomputable def zjM:=hide zmR
noncomputable def zjL:=hide zmS
theorem zpR:zjM=zmR:=zb _
theorem zpQ:zjL=zmS:=zb _
noncomputable def zBE:Ctr:=zcB [.v true (.st .prg), .v false (.st .mac), .v false (.int .i64), .v false (.st .ins)] [.own (.st .mac)] (uu4 zjL) (uu4 zjM)
noncomputable def zBF:TT:=(((((((((((((((((T0.a zhY).a zf0).a zmO).a zkC).a zpX).a zgH).a zjN).a zkw).a zwn).a zpr).a zih).a zsf).a zpS).a zwg).a zv1).a zq5).a znM).a zv2
theorem zwa:zi Tryz.prog 76 zBE:=zcS Tryz.f76 zBF (congrArg uu4 zpQ) (congrArg uu4 zpR) 15 295 (fun _=>noA) 0x400400000000000000400000000400000000400000000400000000400000000400000000400000000400000000000000001800000001400000400000000000000000000000400010000400000000c0000000000000000000002000000000000000080040041080080001000081000000002000000080000002000080002000000000
noncomputable def zwb (a:Prg) (b:Mac) (c:Int) (i0:Int×(List Ob)×(List Syn)×(List Gor)×(List Int)×Unit):Snap:=⟨[(2,vI c),(3, .ptr 15 0),(4, .ptr 16 0),(6, .ptr 17 0),(7,vI (i0.1))],[(1,bV),(2,bT .none (.st .fnc) a.funcs 1),(3,bV),(4,bT .none (.st .glb) a.globals 3),(5,bV),(6,bT .none (RT.list (RT.int IntKind.i64)) a.layouts 5),(15,bC 32 [.lw 2 2 [] 4 a.funcs.length, .lw 4 4 [] 2 a.globals.length, .lw 6 6 [] 1 a.layouts.length,vI a.main]),(16,bC 38 [.lw 27 27 [] 10 (List.length (i0.2.1)), .lw 29 29 [] 6 (List.length (i0.2.2.1)), .lw 31 31 [] 4 (List.length (i0.2.2.2.1)), .lw 33 33 [] 1 (List.length (i0.2.2.2.2.1))]),(17,bC 38 [vN,vN,vN,vN]),(26,bV),(27,bT .none (.st .ob) (i0.2.1) 26),(28,bV),(29,bT .all (.st .syn) (i0.2.2.1) 28),(30,bV),(31,bT .all (.st .gor) (i0.2.2.2.1) 30),(32,bV),(33,bT .all (.int .i64) (i0.2.2.2.2.1) 32)],34⟩
noncomputable def zqY (a:Prg) (b:Mac) (c:Int) (u9:(List Ob)×(List Syn)×(List Gor)×(List Int)×Unit):Snap:=⟨[(6, .ptr 17 0)],[(17,bC 38 [.lw 36 36 [] 10 (List.length (u9.1)), .lw 38 38 [] 6 (List.length (u9.2.1)), .lw 40 40 [] 4 (List.length (u9.2.2.1)), .lw 42 42 [] 1 (List.length (u9.2.2.2.1))]),(35,bV),(36,bT .none (.st .ob) (u9.1) 35),(37,bV),(38,bT .all (.st .syn) (u9.2.1) 37),(39,bV),(40,bT .all (.st .gor) (u9.2.2.1) 39),(41,bV),(42,bT .all (.int .i64) (u9.2.2.2.1) 41)],43⟩
noncomputable def zcN (a:Prg) (b:Mac) (c:Int) (i0:Int×(List Ob)×(List Syn)×(List Gor)×(List Int)×Unit):(Int×(List Ob)×(List Syn)×(List Gor)×(List Int)×Unit)⊕((List Ob)×(List Syn)×(List Gor)×(List Int)×Unit):=let x1:=i0.fst;
let x2:=i0.snd.fst;
let x3:=i0.snd.snd.fst;
let x4:=i0.snd.snd.snd.fst;
let x5:=i0.snd.snd.snd.snd.fst;
let x6:=Mac.mk x2 x3 x4 x5;
let x7:=(zcM a x6 c).fst;
let x8:=(zK x6 c (8:Int)).fst;
let x9:=(zjM a x6 c x7).fst;
bif !!(zcM a x6 c).snd.fst then bif (zey x7.op).fst then Sum.inr (x2,x3,x4,x5,()) else bif x1==(2000:Int) then Sum.inr (x8.objects,x8.syncs,x8.goroutines,x8.output,()) else Sum.inl (IntKind.i64.wrap (x1+(1:Int)),x9.objects,x9.syncs,x9.goroutines,x9.output,()) else Sum.inr (x2,x3,x4,x5,())
noncomputable def zez (a:Prg) (b:Mac) (c:Int) (i0:Int×(List Ob)×(List Syn)×(List Gor)×(List Int)×Unit):Bool:=let x1:=Mac.mk i0.snd.fst i0.snd.snd.fst i0.snd.snd.snd.fst i0.snd.snd.snd.snd.fst;
let x2:=(zcM a x1 c).fst;
let x3:=x2.op;
zgo a x1 c&&bif !!(zcM a x1 c).snd.fst then zgn x3&&bif (zey x3).fst then true else bif i0.fst==(2000:Int) then zbb x1 c (8:Int) else zjL a x1 c x2 else true
noncomputable def zkD (a:Prg) (b:Mac) (c:Int):Mac×Unit:=let y1:=zd (zcN a b c) ([],[],[],[],()) X_N ((0:Int),(zj b).fst.objects,(zj b).fst.syncs,(zj b).fst.goroutines,(zj b).fst.output,());
(Mac.mk y1.fst y1.snd.fst y1.snd.snd.fst y1.snd.snd.snd.fst,())
noncomputable def zkE (a:Prg) (b:Mac) (c:Int):Bool:=zdA b&&X_wok (zcN a b c) (zez a b c) X_N ((0:Int),(zj b).fst.objects,(zj b).fst.syncs,(zj b).fst.goroutines,(zj b).fst.output,())
noncomputable def zb4:=hide zkD
noncomputable def zd9:=hide zkE
theorem zno:zb4=zkD:=zb _
theorem znn:zd9=zkE:=zb _
noncomputable def zyo:Ctr:=zcB [.v true (.st .prg), .v false (.st .mac), .v false (.int .i64)] [.own (.st .mac)] (uu3 zd9) (uu3 zb4)
noncomputable def zyn (a:Prg) (b:Mac) (c:Int):Nat→ze5:=fun q=>match q with|0=> .mk [⟨7,none,(.int .i64)⟩,⟨4,some 0,(.list (.st .ob))⟩,⟨4,some 1,(.list (.st .syn))⟩,⟨4,some 2,(.list (.st .gor))⟩,⟨4,some 3,(.list (.int .i64))⟩] (zwb a b c) [⟨.ret,[⟨6,some 0,(.list (.st .ob))⟩,⟨6,some 1,(.list (.st .syn))⟩,⟨6,some 2,(.list (.st .gor))⟩,⟨6,some 3,(.list (.int .i64))⟩],zqY a b c⟩] (zcN a b c) (zez a b c) (H 0x1041082000000080041000) (fun (_:Int×(List Ob)×(List Syn)×(List Gor)×(List Int)×Unit)=>fun _=> .no)|_=> .no
noncomputable def zyp:TT:=((((T0.a zfN).a zqX).a zqS).a zf0).a zwa
theorem ztV:zi Tryz.prog 32 zyo:=zcS Tryz.f32 zyp (congrArg uu3 znn) (congrArg uu3 zno) 15 39 (uu3 zyn) 0x1000 (fun zz=>zC [(0,(zaP 0 (bd Tryz.f32)))] (by kernel_rfl) ⟨fun _=>⟨by kernel_rfl,zm (by kernel_rfl)⟩,trivial⟩)
theorem zz7 (i:Nat) (l:List Dfr):(sub (List.append [] [(i,Nat.succ (0:Nat))]) (RT.st SN.dfr) l).snd=(l.getD i zoB).args:=rfl
def zKy (f:Frm) (dest:Int) (v:Val):Frm:=⟨f.fn,f.pc,f.regs.set dest.toNat v,f.dest,f.defers,f.leaving,f.result⟩
def ztK (n:Nat) (fs:List Frm):List Frm:=
 bif decide (0<n)&&decide ((fs.getD n zo).dest≥0)&&decide ((fs.getD n zo).dest<((fs.getD (n - 1) zo).regs.length:Int)) then (fs.set (n - 1) (zKy (fs.getD (n - 1) zo) (fs.getD n zo).dest (fs.getD n zo).result)).take n else fs.take n
def ziF (f:Frm):Frm:=⟨f.fn,f.pc,f.regs,f.dest,f.defers.take (f.defers.length - 1),f.leaving,f.result⟩
def zlb (f:Frm):Dfr:=f.defers.getD (f.defers.length - 1) zoB
def zca (p:Prg) (b:Gor) (n:Nat) (fs:List Frm):Gor:=
 (zbw p ⟨b.state,b.fault,b.allocs,fs.set n (ziF (fs.getD n zo))⟩ (zlb (fs.getD n zo)).fn (zlb (fs.getD n zo)).args (-1)).getD ⟨3,9,b.allocs,fs.set n (ziF (fs.getD n zo))⟩
def zdk (p:Prg) (b:Gor):Nat→List Frm→Gor
 |0,fs=>⟨2,b.fault,b.allocs,fs⟩
 |n+1,fs=>bif (fs.getD n zo).leaving then bif decide (((fs.getD n zo).defers.length:Int)>0) then zca p b n fs else zdk p b n (ztK n fs) else ⟨b.state,b.fault,b.allocs,fs⟩
abbrev ExR:=Bool×((List Frm)×Unit)×(Int×Int×Int×(List Frm)×Unit)
def zkn (p:Prg) (b:Gor):Nat→List Frm→ExR
 |0,fs=>(true,(fs,()),0,0,0,[],())
 |n+1,fs=>bif (fs.getD n zo).leaving then bif decide (((fs.getD n zo).defers.length:Int)>0) then (false,([],()),(zca p b n fs).state,(zca p b n fs).fault,(zca p b n fs).allocs,(zca p b n fs).frames,()) else zkn p b n (ztK n fs) else (true,(fs,()),0,0,0,[],())
def zIS (b:Gor) (e:ExR):Gor:=bif e.1 then bif (e.2.1.1.length:Int)==0 then ⟨2,b.fault,b.allocs,e.2.1.1⟩ else ⟨b.state,b.fault,b.allocs,e.2.1.1⟩ else ⟨e.2.2.1,e.2.2.2.1,e.2.2.2.2.1,e.2.2.2.2.2.1⟩
theorem zjF {n:Nat} {fs:List Frm} (h:fs.length=n+1):(ztK n fs).length=n:=by
 unfold ztK;cases (decide (0<n)&&decide ((fs.getD n zo).dest≥0)&&decide ((fs.getD n zo).dest<((fs.getD (n - 1) zo).regs.length:Int))) with
 |true=>rw [cond_true,List.length_take,List.length_set];omega
 |false=>rw [cond_false,List.length_take];omega
theorem zrU (p:Prg) (b:Gor):∀{n:Nat} {fs:List Frm},fs.length=n→zIS b (zkn p b n fs)=zdk p b n fs
 |0,fs,h=>by unfold zIS zkn zdk;rw [show fs=[] from zNj.1 h];rfl
 |n+1,fs,h=>by
  unfold zkn zdk;cases (fs.getD n zo).leaving with
  |false=>
   unfold zIS;have e:((fs.length:Int)==0)=false:=beq_eq_false_iff_ne.2 (by omega)
   simp only [cond_false,cond_true,e]
  |true=>cases decide (((fs.getD n zo).defers.length:Int)>0) with
   |true=>rfl
   |false=>exact zrU p b (zjF h)
def zoh (N:Nat) (fs:List Frm):Prop:=fs.length≤N∧∀f∈fs,zgU N f
theorem zh4 {N n:Nat} {fs:List Frm} {f:Frm} (h:zoh N fs) (hf:zgU N f):zoh N (fs.set n f):=by
 refine ⟨by rw [List.length_set];exact h.1,fun g hg=>?_⟩
 rcases zmp hg with e|e
 ·rw [e];exact hf
 ·exact h.2 g e
theorem zwW {N n:Nat} {fs:List Frm} (h:zoh N fs):zoh N (fs.take n):=⟨by rw [List.length_take];have:=h.1;omega,fun f hf=>h.2 f (List.mem_of_mem_take hf)⟩
theorem znb {N n:Nat} {fs:List Frm} (h:zoh N fs) (hn:n<fs.length):zgU N (fs.getD n zo):=h.2 _ (getD_mem hn)
theorem zyQ {N:Nat} {f:Frm} (h:zgU N f):zgU N (ziF f):=⟨h.1,by show (List.take _ _).length≤N;rw [List.length_take];have:=h.2.1;omega,fun d hd=>h.2.2 d (List.mem_of_mem_take hd)⟩
theorem zJU {N:Nat} {f:Frm} {d:Int} {v:Val} (h:zgU N f):zgU N (zKy f d v):=⟨by show (List.set _ _ _).length≤N;rw [List.length_set];exact h.1,h.2⟩
theorem zul {N n:Nat} {fs:List Frm} (h:zoh N fs) (hl:fs.length=n+1):zoh N (ztK n fs):=by
 unfold ztK;cases (decide (0<n)&&decide ((fs.getD n zo).dest≥0)&&decide ((fs.getD n zo).dest<((fs.getD (n - 1) zo).regs.length:Int))) with
 |true=>exact zwW (zh4 h (zJU (znb h (by omega))))
 |false=>exact zwW h
theorem zAV (p:Prg) (b:Gor) (n:Nat) (fs:List Frm):zkn p b (n+1) fs=bif (fs.getD n zo).leaving then bif decide (((fs.getD n zo).defers.length:Int)>0) then (false,([],()),(zca p b n fs).state,(zca p b n fs).fault,(zca p b n fs).allocs,(zca p b n fs).frames,()) else zkn p b n (ztK n fs) else (true,(fs,()),0,0,0,[],()):=rfl
theorem zx0 {p:Prg} {b:Gor} {c:Val} {fs:List Frm} (hp:zml p) (hb:zaW BIG b) (h:zoh BIG fs):
  zcL p b c (fs,())=true∧((∃j,zY p b c (fs,())= .inl (j,())∧zoh BIG j∧j.length<fs.length∧zkn p b j.length j=zkn p b fs.length fs)∨∃e,zY p b c (fs,())= .inr e∧zkn p b fs.length fs=e):=by
 have hB:=zc4;have hL:=h.1;unfold zY zcL;have hc:=zah hb;cases hn:fs.length with
 |zero=>
  have e1:decide (((0:Nat):Int)>(0:Int))=false:=decide_eq_false (by omega)
  simp only [hn,e1,cond_false];exact ⟨by trivial,Or.inr ⟨_,rfl,rfl⟩⟩
 |succ n=>
  have e1:decide (((n+1:Nat):Int)>(0:Int))=true:=decide_eq_true (by omega)
  have e2:IntKind.i64.wrap (((n+1:Nat):Int) - (1:Int))=(n:Int):=by rw [zav (by omega) (by omega)];omega
  have e3:Int.toNat ((n:Int) - (0:Int))=n:=by omega
  have e0:Int.toNat (0:Int)=0:=rfl;simp only [hn,e1,e2,e3,e0,Int.toNat_natCast,cond_true,zbq (Nat.lt_succ_self n),Bool.true_and,hc.1,hc.2,zz7,List.drop_zero];have hT:=znb h (show n<fs.length by omega)
  show _∧((∃j,_∧_∧_∧_=zkn p b (n+1) fs)∨∃e,_∧zkn p b (n+1) fs=e);rw [zAV];cases hl:(fs.getD n zo).leaving with
  |false=>
   simp only [cond_false];exact ⟨by trivial,Or.inr ⟨_,rfl,rfl⟩⟩
  |true=>
   simp only [cond_true];cases hd:decide (((fs.getD n zo).defers.length:Int)>0) with
   |true=>
    have hd':=of_decide_eq_true hd;have hdl:=hT.2.1;have f1:IntKind.i64.wrap (((fs.getD n zo).defers.length:Int) - (1:Int))=(((fs.getD n zo).defers.length - 1:Nat):Int):=by rw [zav (by omega) (by omega)];omega
    have f2:decide ((0:Int)≤(0:Int)∧(0:Int)≤(((fs.getD n zo).defers.length - 1:Nat):Int)∧(((fs.getD n zo).defers.length - 1:Nat):Int)≤((fs.getD n zo).defers.length:Int))=true:=decide_eq_true ⟨by omega,by omega,by omega⟩
    have f3:Int.toNat ((((fs.getD n zo).defers.length - 1:Nat):Int) - (0:Int))=(fs.getD n zo).defers.length - 1:=by omega
    have hsz:zoh BIG (fs.set n (ziF (fs.getD n zo))):=zh4 h (zyQ hT);have hE:=zkB (p:=p) (g:=⟨b.state,b.fault,b.allocs,fs.set n (ziF (fs.getD n zo))⟩) (fn:=(zlb (fs.getD n zo)).fn) (args:=(zlb (fs.getD n zo)).args) (dest:= -1) hp hsz (hT.2.2 _ (getD_mem (by omega)))
    unfold zca;revert hE;unfold ziF zlb;rw [hl];intro hE;simp only [cond_true,f1,f2,f3,Int.toNat_natCast,zbq (show (fs.getD n zo).defers.length - 1<(fs.getD n zo).defers.length by omega),Bool.true_and,hE.1,decide_true]
    have hE2:=hE.2;revert hE2;cases zbw p _ _ _ _ with
    |none=>intro hE2;simp only [hE2,cond_true];exact ⟨by trivial,Or.inr ⟨_,rfl,rfl⟩⟩
    |some y=>intro hE2;simp only [hE2,bne_self_eq_false,cond_false];exact ⟨by trivial,Or.inr ⟨_,rfl,rfl⟩⟩
   |false=>
    have f2:decide ((0:Int)≤(0:Int)∧(0:Int)≤(n:Int)∧(n:Int)≤((n+1:Nat):Int))=true:=decide_eq_true ⟨by omega,by omega,by omega⟩
    have hfin:∀j:List Frm,j=ztK n fs→zoh BIG j∧j.length<n+1∧zkn p b j.length j=zkn p b n (ztK n fs):=fun j e=>by
     rw [e,zjF hn];exact ⟨zul h hn,Nat.lt_succ_self n,rfl⟩
    simp only [cond_false,f2,Bool.true_and];cases n with
    |zero=>
     have g1:decide (((0:Nat):Int)>(0:Int))=false:=decide_eq_false (by omega)
     simp only [g1,cond_false];exact ⟨by trivial,Or.inl ⟨_,rfl,hfin _ rfl⟩⟩
    |succ k=>
     have g1:decide (((k+1:Nat):Int)>(0:Int))=true:=decide_eq_true (by omega)
     have g2:IntKind.i64.wrap (((k+1:Nat):Int) - (1:Int))=(k:Int):=by rw [zav (by omega) (by omega)];omega
     have g3:0+k=k:=by omega
     simp only [g1,g2,g3,Int.toNat_natCast,cond_true,zbq (Nat.lt_succ_self k),Bool.true_and];have g4:decide (0<k+1)=true:=decide_eq_true (by omega)
     have hpop:∀j:List Frm,j=(bif decide ((fs.getD (k+1) zo).dest≥0)&&decide ((fs.getD (k+1) zo).dest<((fs.getD k zo).regs.length:Int)) then (fs.set k (zKy (fs.getD k zo) (fs.getD (k+1) zo).dest (fs.getD (k+1) zo).result)).take (k+1) else fs.take (k+1))→j=ztK (k+1) fs:=fun j e=>by
      rw [e];unfold ztK;simp only [g4,Bool.true_and,Nat.add_sub_cancel]
     cases h1:decide ((fs.getD (k+1) zo).dest≥(0:Int)) with
     |false=>
      rw [h1] at hpop;simp only [Bool.false_and,cond_false] at hpop;simp only [cond_false];exact ⟨by trivial,Or.inl ⟨_,rfl,hfin _ (hpop _ rfl)⟩⟩
     |true=>
      rw [h1] at hpop;simp only [Bool.true_and] at hpop;simp only [cond_true];cases h2:decide ((fs.getD (k+1) zo).dest<((fs.getD k zo).regs.length:Int)) with
      |false=>
       rw [h2] at hpop;simp only [cond_false] at hpop ⊢;exact ⟨by trivial,Or.inl ⟨_,rfl,hfin _ (hpop _ rfl)⟩⟩
      |true=>
       rw [h2] at hpop;have g5:decide ((0:Int)≤(fs.getD (k+1) zo).dest∧(fs.getD (k+1) zo).dest<((fs.getD k zo).regs.length:Int))=true:=decide_eq_true ⟨of_decide_eq_true h1,of_decide_eq_true h2⟩;simp only [cond_true] at hpop;simp only [cond_true,g5];exact ⟨by trivial,Or.inl ⟨_,rfl,hfin _ (hpop _ rfl)⟩⟩
def zlg (f:Frm) (c:Val):Frm:=bif f.leaving then f else ⟨f.fn,f.pc,f.regs,f.dest,f.defers,true,c⟩
def zeV (p:Prg) (g:Gor) (c:Val):Gor:=bif g.frames.isEmpty then g else zdk p g g.frames.length (g.frames.set (g.frames.length - 1) (zlg (topK g) c))
theorem zxZ {p:Prg} {b:Gor} {c:Val} {fs:List Frm} (hp:zml p) (hb:zaW BIG b) (h:zoh BIG fs) (d:ExR):
  X_wok (zY p b c) (zcL p b c) X_N (fs,())=true∧zd (zY p b c) d X_N (fs,())=zkn p b fs.length fs:=
 zeS (step:=zY p b c) (ok:=zcL p b c) (d:=d) (fun i=>zoh BIG i.1) (fun i=>i.1.length) (fun i=>zkn p b i.1.length i.1)
  (fun i hi=>by
   obtain ⟨l,u⟩:=i;have hs:=zx0 (c:=c) hp hb hi;refine ⟨hs.1,?_⟩;rcases hs.2 with ⟨j,h1,h2,h3,h4⟩|⟨e,h1,h2⟩
   ·exact Or.inl ⟨(j,()),h1,h2,h3,h4⟩
   ·exact Or.inr ⟨e,h1,h2⟩) (n:=X_N) (i:=(fs,())) h (by have:=h.1;have hB:=zc4;show fs.length<X_N;unfold X_N;omega)
theorem zwy {α:Type} {l:List α} {n:Nat} {d:α} (h:n<l.length):l.set n (l.getD n d)=l:=by
 apply List.ext_getElem (by simp)
 intro i h1 h2;rw [List.getElem_set];split
 ·next e=>subst e;simp [List.getD,h]
 ·rfl
theorem zbp {α:Type} {l:List α} {n:Nat} {d x:α} (h:n<l.length):(l.set n x).getD n d=x:=by simp [List.getD,h]
theorem zyj {p:Prg} {g:Gor} {c:Val} (hp:zml p) (hg:zaW BIG g):zfg p g c=true∧zcX p g c=(zeV p g c,()):=by
 have hB:=zc4;have hL:=hg.1;rw [zpI,zpH];unfold zmM zmN zeV;have hc:=zah hg;simp only [hc.1,hc.2,Bool.true_and];rcases zNl g.frames.length with h0|h0
 ·rw [zNj.1 h0];exact ⟨by trivial,by trivial⟩
 ·have e1:((g.frames.length:Int)==0)=false:=beq_eq_false_iff_ne.2 (by omega)
  have e2:=zb0 hL h0;have hl:g.frames.length - 1<g.frames.length:=by omega
  simp only [e1,e2,Int.toNat_natCast,cond_false,zbq hl,Bool.true_and,zzJ h0];rw [show g.frames.getD (g.frames.length - 1) zo=topK g from rfl];have key:∀fs:List Frm,zoh BIG fs→fs.length=g.frames.length→fs=g.frames.set (g.frames.length - 1) (zlg (topK g) c)→
    X_wok (zY p g c) (zcL p g c) X_N (fs,())=true∧zIS g (zd (zY p g c) (false,([],()),(0:Int),(0:Int),(0:Int),[],()) X_N (fs,()))=zdk p g g.frames.length (g.frames.set (g.frames.length - 1) (zlg (topK g) c)):=fun fs hs hle hf=>by
   have:=zxZ (c:=c) hp hg hs (false,([],()),(0:Int),(0:Int),(0:Int),[],());refine ⟨this.1,?_⟩;rw [this.2,zrU p g rfl, ←hf,hle]
  cases hlv:(topK g).leaving with
  |true=>
   have hk:=key g.frames hg rfl (by
    unfold zlg;rw [hlv];exact (zwy hl).symm)
   simp only [Bool.not_true,cond_false];refine ⟨hk.1,?_⟩;rw [←hk.2];unfold zIS;generalize zd (zY p g c) _ X_N (g.frames,())=q;cases q.1 with
   |true=>cases ((q.2.1.1.length:Int)==0)<;>rfl
   |false=>rfl
  |false=>
   simp only [Bool.not_false,cond_true,zbp hl,List.set_set];have hm:(g.frames.set (g.frames.length - 1) (⟨(topK g).fn,(topK g).pc,(topK g).regs,(topK g).dest,(topK g).defers,true,c⟩:Frm))=g.frames.set (g.frames.length - 1) (zlg (topK g) c):=by unfold zlg;rw [hlv];rfl
   have hk:=key (g.frames.set (g.frames.length - 1) (⟨(topK g).fn,(topK g).pc,(topK g).regs,(topK g).dest,(topK g).defers,true,c⟩:Frm)) (zh4 hg (znb hg hl)) (by rw [List.length_set]) hm
   refine ⟨hk.1,?_⟩;rw [←hk.2];unfold zIS;generalize zd (zY p g c) _ X_N (g.frames.set _ _,())=q;cases q.1 with
   |true=>cases ((q.2.1.1.length:Int)==0)<;>rfl
   |false=>rfl
noncomputable def zqq (a:Prg) (b:Gor) (c:Val) (i0:(List Frm)×Unit):Snap:=⟨[(3, .ptr 9 0),(4, .ptr 10 0),(6, .ptr 12 0),(7, .ep 16 16 [] 9 (Int.toNat (IntKind.wrap IntKind.i64 (↑i0.1.length - 1))) 0)],[(1,bV),(2,bT .none (.st .fnc) a.funcs 1),(3,bV),(4,bT .none (.st .glb) a.globals 3),(5,bV),(6,bT .none (RT.list (RT.int IntKind.i64)) a.layouts 5),(9,bC 32 [.lw 2 2 [] 4 a.funcs.length, .lw 4 4 [] 2 a.globals.length, .lw 6 6 [] 1 a.layouts.length,vI a.main]),(10,bC 63 [vI ((zf b).fst.state),vI ((zf b).fst.fault),vI ((zf b).fst.allocs), .lw 16 16 [] 9 (List.length (i0.1))]),(12,bC 63 [vI 0,vI 0,vI 0,vN]),(15,bV),(16,bT .all (.st .frm) (i0.1) 15)],17⟩
noncomputable def zm6 (a:Prg) (b:Gor) (c:Val) (u9:(List Frm)×Unit):Snap:=⟨[(4, .ptr 10 0),(6, .ptr 12 0),(7, .ep 18 18 [] 9 (Int.toNat (IntKind.wrap IntKind.i64 (↑u9.1.length - 1))) 0)],[(10,bC 63 [vI ((zf b).fst.state),vI ((zf b).fst.fault),vI ((zf b).fst.allocs), .lw 18 18 [] 9 (List.length (u9.1))]),(12,bC 63 [vI 0,vI 0,vI 0,vN]),(17,bV),(18,bT .all (.st .frm) (u9.1) 17)],19⟩
noncomputable def zm7 (a:Prg) (b:Gor) (c:Val) (u9:(List Frm)×Unit):Snap:=⟨[(4, .ptr 10 0),(6, .ptr 12 0),(7, .lit (Value.pointer none))],[(10,bC 63 [vI ((zf b).fst.state),vI ((zf b).fst.fault),vI ((zf b).fst.allocs), .lw 19 19 [] 9 (List.length (u9.1))]),(12,bC 63 [vI 0,vI 0,vI 0,vN]),(18,bV),(19,bT .all (.st .frm) (u9.1) 18)],20⟩
noncomputable def zm8 (a:Prg) (b:Gor) (c:Val) (u9:Int×Int×Int×(List Frm)×Unit):Snap:=⟨[(6, .ptr 12 0)],[(12,bC 63 [vI (u9.1),vI (u9.2.1),vI (u9.2.2.1), .lw 25 25 [] 9 (List.length (u9.2.2.2.1))]),(24,bV),(25,bT .all (.st .frm) (u9.2.2.2.1) 24)],26⟩
noncomputable def zB (a:Prg) (b:Gor) (c:Val) (i0:(List Frm)×Unit):((List Frm)×Unit)⊕(Bool×((List Frm)×Unit)×(Bool×((List Frm)×Unit)×(Int×Int×Int×(List Frm)×Unit))):=let x1:=IntKind.i64.wrap ((i0.fst.length:Int) - (1:Int));
let x2:=Int.toNat x1;
let x3:=List.getD i0.fst x2 zo;
let x4:=x3.leaving;
let x5:=x3.result;
let x6:=x3.defers;
let x7:=x3.dest;
let x8:=Int.toNat (x1 - (0:Int));
let x9:=(x6.length:Int);
let x10:=(↑x8:Int);
let x11:=IntKind.i64.wrap (x9 - (1:Int));
let x12:=Int.toNat x11;
let x13:=Int.toNat (0:Int)+Int.toNat (IntKind.i64.wrap (x10 - (1:Int)));
let x14:=List.getD i0.fst x13 zo;
let x15:=x14.regs;
let x16:=(x15.length:Int);
let x17:=List.set i0.fst x2 (Frm.mk x3.fn x3.pc x3.regs x7 (List.take (Int.toNat (x11 - (0:Int))) x6) x4 x5);
let x18:=(zao a (Gor.mk (zf b).fst.state (zf b).fst.fault (zf b).fst.allocs x17) (List.getD x6 x12 zoB).fn (sub (List.append [] [(x12,Nat.succ (0:Nat))]) (RT.st SN.dfr) x6).snd (-1:Int)).fst;
bif x4 then bif decide (x9>(0:Int)) then bif (zao a (Gor.mk (zf b).fst.state (zf b).fst.fault (zf b).fst.allocs x17) (List.getD x6 x12 zoB).fn (sub (List.append [] [(x12,Nat.succ (0:Nat))]) (RT.st SN.dfr) x6).snd (-1:Int)).snd.fst != (0:Int) then Sum.inr (false,([],()),false,([],()),(3:Int),(9:Int),(zf b).fst.allocs,x17,()) else Sum.inr (false,([],()),false,([],()),x18.state,x18.fault,x18.allocs,x18.frames,()) else bif x10==(0:Int) then Sum.inr (false,([],()),true,(List.take x8 (List.drop (Int.toNat (0:Int)) i0.fst),()),(0:Int),(0:Int),(0:Int),[],()) else bif decide (x7≥(0:Int)) then bif decide (x7<x16) then Sum.inl (List.take x8 (List.drop (Int.toNat (0:Int)) (List.set i0.fst x13 (Frm.mk x14.fn x14.pc (List.set x15 (Int.toNat x7) x5) x14.dest x14.defers x14.leaving x14.result))),()) else Sum.inl (List.take x8 (List.drop (Int.toNat (0:Int)) i0.fst),()) else Sum.inl (List.take x8 (List.drop (Int.toNat (0:Int)) i0.fst),()) else Sum.inr (true,(i0.fst,()),false,([],()),(0:Int),(0:Int),(0:Int),[],())
noncomputable def zaH (a:Prg) (b:Gor) (c:Val) (i0:(List Frm)×Unit):Bool:=let x1:=(i0.fst.length:Int);
let x2:=IntKind.i64.wrap (x1 - (1:Int));
let x3:=Int.toNat x2;
let x4:=List.getD i0.fst x3 zo;
let x5:=x4.leaving;
let x6:=x4.defers;
let x7:=x4.dest;
let x8:=x4.result;
let x9:=Int.toNat (x2 - (0:Int));
let x10:=(x6.length:Int);
let x11:=(↑x9:Int);
let x12:=IntKind.i64.wrap (x10 - (1:Int));
let x13:=IntKind.i64.wrap (x11 - (1:Int));
let x14:=Int.toNat x12;
let x15:=Int.toNat (0:Int)+Int.toNat x13;
let x16:=Int.toNat (IntKind.i64.wrap ((↑(List.length (List.take x9 (List.drop (Int.toNat (0:Int)) i0.fst))):Int) - (1:Int)));
let x17:=List.getD i0.fst x15 zo;
let x18:=x17.regs;
let x19:=(x18.length:Int);
let x20:=decide (x15<x9);
let x21:=x20&&decide (x16=x15);
let x22:=Int.toNat (IntKind.i64.wrap ((↑(List.length (List.take x9 (List.drop (Int.toNat (0:Int)) (List.set i0.fst x15 (Frm.mk x17.fn x17.pc (List.set x18 (Int.toNat x7) x8) x17.dest x17.defers x17.leaving x17.result))))):Int) - (1:Int)));
bif x5 then bif decide (x10>(0:Int)) then decide ((0:Int)≤x12∧x12<x10)&&(decide ((0:Int)≤(0:Int)∧(0:Int)≤x12∧x12≤x10)&&(decide ([(x3,4)]=[(x3,4)])&&zdd a (Gor.mk (zf b).fst.state (zf b).fst.fault (zf b).fst.allocs (List.set i0.fst x3 (Frm.mk x4.fn x4.pc x4.regs x7 (List.take (Int.toNat (x12 - (0:Int))) x6) x5 x8))) (List.getD x6 x14 zoB).fn (sub (List.append [] [(x14,Nat.succ (0:Nat))]) (RT.st SN.dfr) x6).snd (-1:Int))) else decide ((0:Int)≤(0:Int)∧(0:Int)≤x2∧x2≤x1)&&bif x11==(0:Int) then true else decide ((0:Int)≤x13∧x13<x11)&&bif decide (x7≥(0:Int)) then bif decide (x7<x19) then decide ((0:Int)≤x7∧x7<x19)&&(x20&&decide (x22=x15)) else x21 else x21 else decide (x3=x3)
noncomputable def zgQ (a:Prg) (b:Gor) (c:Val):Gor×Unit:=let x1:=(zf b).fst.fault;
let x2:=(zf b).fst.frames;
let x3:=(zf b).fst.allocs;
let x4:=Int.toNat (IntKind.i64.wrap ((x2.length:Int) - (1:Int)));
let x5:=List.getD x2 x4 zo;
let x6:=List.set x2 x4 (Frm.mk x5.fn x5.pc x5.regs x5.dest x5.defers true x5.result);
let x7:=List.getD x6 x4 zo;
let y1:=zd (zB a b c) (false,([],()),false,([],()),(0:Int),(0:Int),(0:Int),[],()) X_N (x2,());
let y2:=zd (zB a b c) (false,([],()),false,([],()),(0:Int),(0:Int),(0:Int),[],()) X_N (List.set x6 x4 (Frm.mk x7.fn x7.pc x7.regs x7.dest x7.defers x7.leaving c),());
bif (x2.length:Int)==(0:Int) then ((zf b).fst,()) else bif !x5.leaving then bif y2.fst then (Gor.mk (zf b).fst.state x1 x3 y2.snd.fst.fst,()) else bif y2.snd.snd.fst then (Gor.mk (2:Int) x1 x3 y2.snd.snd.snd.fst.fst,()) else (Gor.mk y2.snd.snd.snd.snd.fst y2.snd.snd.snd.snd.snd.fst y2.snd.snd.snd.snd.snd.snd.fst y2.snd.snd.snd.snd.snd.snd.snd.fst,()) else bif y1.fst then (Gor.mk (zf b).fst.state x1 x3 y1.snd.fst.fst,()) else bif y1.snd.snd.fst then (Gor.mk (2:Int) x1 x3 y1.snd.snd.snd.fst.fst,()) else (Gor.mk y1.snd.snd.snd.snd.fst y1.snd.snd.snd.snd.snd.fst y1.snd.snd.snd.snd.snd.snd.fst y1.snd.snd.snd.snd.snd.snd.snd.fst,())
noncomputable def zgR (a:Prg) (b:Gor) (c:Val):Bool:=let x1:=(zf b).fst.frames;
let x2:=(x1.length:Int);
let x3:=IntKind.i64.wrap (x2 - (1:Int));
let x4:=Int.toNat x3;
let x5:=List.getD x1 x4 zo;
let x6:=List.set x1 x4 (Frm.mk x5.fn x5.pc x5.regs x5.dest x5.defers true x5.result);
let x7:=List.getD x6 x4 zo;
let x8:=List.set x6 x4 (Frm.mk x7.fn x7.pc x7.regs x7.dest x7.defers x7.leaving c);
let x9:=Int.toNat (IntKind.i64.wrap ((x8.length:Int) - (1:Int)));
zdp b&&bif x2==(0:Int) then true else decide ((0:Int)≤x3∧x3<x2)&&bif !x5.leaving then decide (x9=x4)&&X_wok (zB a b c) (zaH a b c) X_N (x8,()) else decide (x4=x4)&&X_wok (zB a b c) (zaH a b c) X_N (x1,())
noncomputable def zcw:=hide zgQ
noncomputable def zcv:=hide zgR
theorem zjn:zcw=zgQ:=zb _
theorem zjm:zcv=zgR:=zb _
noncomputable def zrj:Ctr:=zcB [.v true (.st .prg), .bor (.st .gor), .v false (.st .val)] [.own (.st .gor)] (uu3 zcv) (uu3 zcw)
noncomputable def zri (a:Prg) (b:Gor) (c:Val):Nat→ze5:=fun q=>match q with|0=> .tw 7 [⟨4,some 3,(.list (.st .frm))⟩] (zqq a b c) [⟨.exit 0,[⟨4,some 3,(.list (.st .frm))⟩],zm6 a b c⟩,⟨.exit 0,[⟨4,some 3,(.list (.st .frm))⟩],zm7 a b c⟩,⟨.ret,[⟨6,some 0,(.int .i64)⟩,⟨6,some 1,(.int .i64)⟩,⟨6,some 2,(.int .i64)⟩,⟨6,some 3,(.list (.st .frm))⟩],zm8 a b c⟩] (zB a b c) (zaH a b c) (H 0x1082082082082080001041041041040041041002082082082082082082082082082080000000000001041041) (fun (_:(List Frm)×Unit)=>fun _=> .no)|_=> .no
noncomputable def zrk:TT:=(T0.a zgP).a zij
theorem znQ:zi Tryz.prog 224 zrj:=zcS Tryz.f224 zrk (congrArg uu3 zjm) (congrArg uu3 zjn) 9 124 (uu3 zri) 0x1040080001002000002001000 (fun zz=>zC [(0,(zaP 0 (bd Tryz.f224)))] (by kernel_rfl) ⟨fun _=>⟨by kernel_rfl,zm (by kernel_rfl)⟩,trivial⟩)
abbrev ExP:=Bool×((List Frm)×Unit)×(Bool×((List Frm)×Unit)×(Int×Int×Int×(List Frm)×Unit))
def zkW (p:Prg) (b:Gor):Nat→List Frm→ExP
 |0,fs=>(false,([],()),true,(fs,()),0,0,0,[],())
 |n+1,fs=>bif (fs.getD n zo).leaving then bif decide (((fs.getD n zo).defers.length:Int)>0) then (false,([],()),false,([],()),(zca p b n fs).state,(zca p b n fs).fault,(zca p b n fs).allocs,(zca p b n fs).frames,()) else zkW p b n (ztK n fs) else (true,(fs,()),false,([],()),0,0,0,[],())
def zKs (b:Gor) (e:ExP):Gor:=bif e.1 then ⟨b.state,b.fault,b.allocs,e.2.1.1⟩ else bif e.2.2.1 then ⟨2,b.fault,b.allocs,e.2.2.2.1.1⟩ else ⟨e.2.2.2.2.1,e.2.2.2.2.2.1,e.2.2.2.2.2.2.1,e.2.2.2.2.2.2.2.1⟩
theorem zrT (p:Prg) (b:Gor):∀{n:Nat} {fs:List Frm},fs.length=n→zKs b (zkW p b n fs)=zdk p b n fs
 |0,fs,h=>rfl
 |n+1,fs,h=>by
  unfold zkW zdk;cases (fs.getD n zo).leaving with
  |false=>rfl
  |true=>cases decide (((fs.getD n zo).defers.length:Int)>0) with
   |true=>rfl
   |false=>exact zrT p b (zjF h)
theorem zAU (p:Prg) (b:Gor) (n:Nat) (fs:List Frm):zkW p b (n+1) fs=bif (fs.getD n zo).leaving then bif decide (((fs.getD n zo).defers.length:Int)>0) then (false,([],()),false,([],()),(zca p b n fs).state,(zca p b n fs).fault,(zca p b n fs).allocs,(zca p b n fs).frames,()) else zkW p b n (ztK n fs) else (true,(fs,()),false,([],()),0,0,0,[],()):=rfl
theorem zxY {p:Prg} {b:Gor} {c:Val} {fs:List Frm} (hp:zml p) (hb:zaW BIG b) (h:zoh BIG fs) (h0:0<fs.length):
  zaH p b c (fs,())=true∧((∃j,zB p b c (fs,())= .inl (j,())∧(zoh BIG j∧0<j.length)∧j.length<fs.length∧zkW p b j.length j=zkW p b fs.length fs)∨∃e,zB p b c (fs,())= .inr e∧zkW p b fs.length fs=e):=by
 have hB:=zc4;have hL:=h.1;unfold zB zaH;have hc:=ze4 hb;obtain ⟨n,hn⟩:∃n,fs.length=n+1:=⟨fs.length - 1,by omega⟩
 have e2:IntKind.i64.wrap (((n+1:Nat):Int) - (1:Int))=(n:Int):=by rw [zav (by omega) (by omega)];omega
 have e3:Int.toNat ((n:Int) - (0:Int))=n:=by omega
 have e0:Int.toNat (0:Int)=0:=rfl;have eT:∀l:List Frm,l.length=n+1→(l.take n).length=n:=fun l e=>by rw [List.length_take];omega
 have eT2:∀(i:Nat) (f:Frm),((fs.set i f).take n).length=n:=fun i f=>eT _ (by rw [List.length_set];exact hn)
 simp only [hn,e2,e3,e0,Int.toNat_natCast,cond_true,zbq (Nat.lt_succ_self n),Bool.true_and,hc.1,hc.2,zz7,List.drop_zero,eT fs hn,eT2];have hT:=znb h (show n<fs.length by omega)
 show _∧((∃j,_∧_∧_∧_=zkW p b (n+1) fs)∨∃e,_∧zkW p b (n+1) fs=e);rw [zAU];cases hl:(fs.getD n zo).leaving with
 |false=>
  simp only [cond_false];exact ⟨by simp,Or.inr ⟨_,rfl,rfl⟩⟩
 |true=>
  simp only [cond_true];cases hd:decide (((fs.getD n zo).defers.length:Int)>0) with
  |true=>
   have hd':=of_decide_eq_true hd;have hdl:=hT.2.1;have f1:IntKind.i64.wrap (((fs.getD n zo).defers.length:Int) - (1:Int))=(((fs.getD n zo).defers.length - 1:Nat):Int):=by rw [zav (by omega) (by omega)];omega
   have f2:decide ((0:Int)≤(0:Int)∧(0:Int)≤(((fs.getD n zo).defers.length - 1:Nat):Int)∧(((fs.getD n zo).defers.length - 1:Nat):Int)≤((fs.getD n zo).defers.length:Int))=true:=decide_eq_true ⟨by omega,by omega,by omega⟩
   have f3:Int.toNat ((((fs.getD n zo).defers.length - 1:Nat):Int) - (0:Int))=(fs.getD n zo).defers.length - 1:=by omega
   have hsz:zoh BIG (fs.set n (ziF (fs.getD n zo))):=zh4 h (zyQ hT);have hE:=zjh (p:=p) (g:=⟨b.state,b.fault,b.allocs,fs.set n (ziF (fs.getD n zo))⟩) (fn:=(zlb (fs.getD n zo)).fn) (args:=(zlb (fs.getD n zo)).args) (dest:= -1) hp hsz;unfold zca;revert hE;unfold ziF zlb;rw [hl];intro hE;simp only [cond_true,f1,f2,f3,Int.toNat_natCast,zbq (show (fs.getD n zo).defers.length - 1<(fs.getD n zo).defers.length by omega),Bool.true_and,hE.1,decide_true]
   have hE2:=hE.2;revert hE2;cases zbw p _ _ _ _ with
   |none=>intro hE2;simp only [hE2,cond_true];exact ⟨by trivial,Or.inr ⟨_,rfl,rfl⟩⟩
   |some y=>intro hE2;simp only [hE2,bne_self_eq_false,cond_false];exact ⟨by trivial,Or.inr ⟨_,rfl,rfl⟩⟩
  |false=>
   have f2:decide ((0:Int)≤(0:Int)∧(0:Int)≤(n:Int)∧(n:Int)≤((n+1:Nat):Int))=true:=decide_eq_true ⟨by omega,by omega,by omega⟩
   have hfin:0<n→∀j:List Frm,j=ztK n fs→(zoh BIG j∧0<j.length)∧j.length<n+1∧zkW p b j.length j=zkW p b n (ztK n fs):=fun hn0 j e=>by
    rw [e,zjF hn];exact ⟨⟨zul h hn,hn0⟩,Nat.lt_succ_self n,rfl⟩
   simp only [cond_false,f2,Bool.true_and];cases n with
   |zero=>exact ⟨by trivial,Or.inr ⟨_,rfl,rfl⟩⟩
   |succ k=>
    have hfin:=hfin (Nat.succ_pos k);have g1:(((k+1:Nat):Int)==(0:Int))=false:=beq_eq_false_iff_ne.2 (by omega)
    have g2:IntKind.i64.wrap (((k+1:Nat):Int) - (1:Int))=(k:Int):=by rw [zav (by omega) (by omega)];omega
    have g3:0+k=k:=by omega
    have g4:decide (0<k+1)=true:=decide_eq_true (by omega)
    have g6:decide (k<k+1)=true:=decide_eq_true (by omega)
    simp only [g1,g2,g3,g6,Int.toNat_natCast,cond_false,zbq (Nat.lt_succ_self k),Bool.true_and,decide_true,Bool.and_self];have hpop:∀j:List Frm,j=(bif decide ((fs.getD (k+1) zo).dest≥0)&&decide ((fs.getD (k+1) zo).dest<((fs.getD k zo).regs.length:Int)) then (fs.set k (zKy (fs.getD k zo) (fs.getD (k+1) zo).dest (fs.getD (k+1) zo).result)).take (k+1) else fs.take (k+1))→j=ztK (k+1) fs:=fun j e=>by
     rw [e];unfold ztK;simp only [g4,Bool.true_and,Nat.add_sub_cancel]
    cases h1:decide ((fs.getD (k+1) zo).dest≥(0:Int)) with
    |false=>
     rw [h1] at hpop;simp only [Bool.false_and,cond_false] at hpop;simp only [cond_false];exact ⟨by trivial,Or.inl ⟨_,rfl,hfin _ (hpop _ rfl)⟩⟩
    |true=>
     rw [h1] at hpop;simp only [Bool.true_and] at hpop;simp only [cond_true];cases h2:decide ((fs.getD (k+1) zo).dest<((fs.getD k zo).regs.length:Int)) with
     |false=>
      rw [h2] at hpop;simp only [cond_false] at hpop ⊢;exact ⟨by trivial,Or.inl ⟨_,rfl,hfin _ (hpop _ rfl)⟩⟩
     |true=>
      rw [h2] at hpop;have g5:decide ((0:Int)≤(fs.getD (k+1) zo).dest∧(fs.getD (k+1) zo).dest<((fs.getD k zo).regs.length:Int))=true:=decide_eq_true ⟨of_decide_eq_true h1,of_decide_eq_true h2⟩;simp only [cond_true] at hpop;simp only [cond_true,g5,Bool.and_self];exact ⟨by trivial,Or.inl ⟨_,rfl,hfin _ (hpop _ rfl)⟩⟩
theorem zxX {p:Prg} {b:Gor} {c:Val} {fs:List Frm} (hp:zml p) (hb:zaW BIG b) (h:zoh BIG fs) (h0:0<fs.length) (d:ExP):
  X_wok (zB p b c) (zaH p b c) X_N (fs,())=true∧zd (zB p b c) d X_N (fs,())=zkW p b fs.length fs:=
 zeS (step:=zB p b c) (ok:=zaH p b c) (d:=d) (fun i=>zoh BIG i.1∧0<i.1.length) (fun i=>i.1.length) (fun i=>zkW p b i.1.length i.1)
  (fun i hi=>by
   obtain ⟨l,u⟩:=i;have hs:=zxY (c:=c) hp hb hi.1 hi.2;refine ⟨hs.1,?_⟩;rcases hs.2 with ⟨j,h1,h2,h3,h4⟩|⟨e,h1,h2⟩
   ·exact Or.inl ⟨(j,()),h1,h2,h3,h4⟩
   ·exact Or.inr ⟨e,h1,h2⟩) (n:=X_N) (i:=(fs,())) ⟨h,h0⟩ (by have:=h.1;have hB:=zc4;show fs.length<X_N;unfold X_N;omega)
theorem zqr {p:Prg} {g:Gor} {c:Val} (hp:zml p) (hg:zaW BIG g):zcv p g c=true∧zcw p g c=(zeV p g c,()):=by
 have hB:=zc4;have hL:=hg.1;rw [zjn,zjm];unfold zgQ zgR zeV;have hc:=ze4 hg;simp only [hc.1,hc.2,Bool.true_and];rcases zNl g.frames.length with h0|h0
 ·rw [zNj.1 h0];exact ⟨by trivial,by trivial⟩
 ·have e1:((g.frames.length:Int)==0)=false:=beq_eq_false_iff_ne.2 (by omega)
  have e2:=zb0 hL h0;have hl:g.frames.length - 1<g.frames.length:=by omega
  simp only [e1,e2,Int.toNat_natCast,cond_false,zbq hl,Bool.true_and,zzJ h0,List.length_set,decide_true];rw [show g.frames.getD (g.frames.length - 1) zo=topK g from rfl];have key:∀fs:List Frm,zoh BIG fs→fs.length=g.frames.length→fs=g.frames.set (g.frames.length - 1) (zlg (topK g) c)→
    X_wok (zB p g c) (zaH p g c) X_N (fs,())=true∧zKs g (zd (zB p g c) (false,([],()),false,([],()),(0:Int),(0:Int),(0:Int),[],()) X_N (fs,()))=zdk p g g.frames.length (g.frames.set (g.frames.length - 1) (zlg (topK g) c)):=fun fs hs hle hf=>by
   have:=zxX (c:=c) hp hg hs (by omega) (false,([],()),false,([],()),(0:Int),(0:Int),(0:Int),[],())
   refine ⟨this.1,?_⟩;rw [this.2,zrT p g rfl, ←hf,hle]
  cases hlv:(topK g).leaving with
  |true=>
   have hk:=key g.frames hg rfl (by
    unfold zlg;rw [hlv];exact (zwy hl).symm)
   simp only [Bool.not_true,cond_false];refine ⟨hk.1,?_⟩;rw [←hk.2];unfold zKs;generalize zd (zB p g c) _ X_N (g.frames,())=q;cases q.1 with
   |true=>rfl
   |false=>cases q.2.2.1<;>rfl
  |false=>
   simp only [Bool.not_false,cond_true,zbp hl,List.set_set];have hm:(g.frames.set (g.frames.length - 1) (⟨(topK g).fn,(topK g).pc,(topK g).regs,(topK g).dest,(topK g).defers,true,c⟩:Frm))=g.frames.set (g.frames.length - 1) (zlg (topK g) c):=by unfold zlg;rw [hlv];rfl
   have hk:=key (g.frames.set (g.frames.length - 1) (⟨(topK g).fn,(topK g).pc,(topK g).regs,(topK g).dest,(topK g).defers,true,c⟩:Frm)) (zh4 hg (znb hg hl)) (by rw [List.length_set]) hm
   refine ⟨hk.1,?_⟩;rw [←hk.2];unfold zKs;generalize zd (zB p g c) _ X_N (g.frames.set _ _,())=q;cases q.1 with
   |true=>rfl
   |false=>cases q.2.2.1<;>rfl
def orM (m:Mac) (o:Option Mac):Mac×Int:=match o with|some x=>(x,0)|none=>(m,9)
def zKt (p:Prg) (i:Ins):Int:=(p.funcs.getD i.b.toNat dFnc).params
def zhb (p:Prg) (m:Mac) (k:Nat) (i:Ins):Mac×Int:=
 bif i.op==16 then (zk8 m k i.c,0)
 else bif i.op==17 then (zk8 m k (bif zga (zac (gorK m k) i.a)==0 then i.c else IntKind.i64.wrap ((topK (gorK m k)).pc+(1:Int))),0)
 else bif i.op==26 then orM m (zgi p m k i.b (argsK (gorK m k) i.c (zKt p i)) i.a)
 else bif i.op==28 then (zai m k (bump (zbd (gorK m k) ⟨i.b,argsK (gorK m k) i.c (zKt p i)⟩)),0)
 else bif i.op==27 then bif !(zt p m (zac (gorK m k) i.a)).2 then (m,1) else orM m (zgi p m k (zt p m (zac (gorK m k) i.a)).1 [zac (gorK m k) i.a] (-1))
 else bif i.op==29 then bif !(zt p m (zac (gorK m k) i.a)).2 then (m,1) else (zai m k (bump (zbd (gorK m k) ⟨(zt p m (zac (gorK m k) i.a)).1,[zac (gorK m k) i.a]⟩)),0)
 else bif i.op==30 then (zai m k (zeV p (gorK m k) (bif decide (i.a<0) then ⟨0,0,0⟩ else zac (gorK m k) i.a)),0)
 else bif (znd p m k i).2.2 != 0 then (m,(znd p m k i).2.2) else (zn9 (znd p m k i).1 k i.a (znd p m k i).2.1,0)
def zeF (m:Mac) (k:Nat) (r:Mac×Int):Mac:=bif r.2 != 0 then zds m k r.2 else r.1
def zFM (p:Prg) (i:Ins):Prop:=zx6 p i∧1≤i.op∧i.op≤30∧((i.op==26||i.op==28)=true→0≤i.b∧i.b<(p.funcs.length:Int))
theorem zAK (m:Mac) (k:Nat) (d:Dfr) (hk:k<m.goroutines.length) (hf:0<(gorK m k).frames.length):
  zk8 (zai m k (zbd (gorK m k) d)) k (IntKind.i64.wrap ((topK (gorK m k)).pc+(1:Int)))=zai m k (bump (zbd (gorK m k) d)):=by
 unfold zk8 bump;rw [zT hk,zh6];congr 3;unfold zbd;rw [zf8 hf];rfl
theorem zz8 {N:Nat} {g:Gor} {d:Dfr} (h:zaW N g) (hf:0<g.frames.length) (hd:d.args.length≤N) (hn:(topK g).defers.length<N):zaW N (zbd g d):=by
 refine zf7 h ?_;have ht:=zim h hf;refine ⟨ht.1,?_,fun x hx=>?_⟩
 ·show ((topK g).defers++[d]).length≤N;rw [zNo,List.length_singleton];omega
 ·rcases List.mem_append.1 hx with hx|hx
  ·exact ht.2.2 x hx
  ·rw [List.mem_singleton.1 hx];exact hd
def zCU (N:Nat) (p:Prg):Prop:=∀f∈p.funcs,0≤f.params∧f.params≤f.regs∧f.regs≤(N:Int)
theorem ziz {N M:Nat} {p:Prg} (h:zCU N p) (hl:N≤M):zCU M p:=fun f hf=>⟨(h f hf).1,(h f hf).2.1,by have:=(h f hf).2.2;omega⟩
theorem zrA {N:Nat} {p:Prg} {g x:Gor} {fn:Int} {args:List Val} {dest:Int} (hp:zCU N p) (hN:32≤N) (h:zaW N g) (e:zbw p g fn args dest=some x):zaW N x:=by
 have hc:=zoG e;rw [zfr e];simp only [Bool.and_eq_true,Bool.not_eq_true',decide_eq_false_iff_not,beq_iff_eq] at hc;obtain ⟨⟨c1,c2⟩,c3⟩:=hc;unfold inR at c1;have c1:=of_decide_eq_true c1;obtain ⟨q1,q2,q3⟩:=hp (p.funcs.getD fn.toNat dFnc) (getD_mem (by omega))
 refine ⟨?_,fun f hf=>?_⟩
 ·show (g.frames++[_]).length≤N;rw [zNo];simp only [List.length_cons,List.length_nil];omega
 ·rcases List.mem_append.1 hf with hf|hf
  ·exact h.2 f hf
  ·rw [List.mem_singleton.1 hf];refine ⟨?_,?_,fun d hd=>(by cases hd)⟩
   ·show (args++List.replicate _ zjY).length≤N;rw [zNo,List.length_replicate];omega
   ·exact zNk _
theorem zEZ {N n:Nat} {p:Prg} {b:Gor} {fs:List Frm} (hp:zCU N p) (hN:32≤N) (h:zoh N fs) (hn:n<fs.length):zaW N (zca p b n fs):=by
 have hs:zoh N (fs.set n (ziF (fs.getD n zo))):=zh4 h (zyQ (znb h hn));unfold zca;cases he:zbw p ⟨b.state,b.fault,b.allocs,fs.set n (ziF (fs.getD n zo))⟩ (zlb (fs.getD n zo)).fn (zlb (fs.getD n zo)).args (-1) with
 |none=>exact hs
 |some y=>exact zrA (g:=⟨b.state,b.fault,b.allocs,fs.set n (ziF (fs.getD n zo))⟩) hp hN hs he
theorem zwY {N:Nat} {p:Prg} {b:Gor} (hp:zCU N p) (hN:32≤N):∀{n:Nat} {fs:List Frm},fs.length=n→zoh N fs→zaW N (zdk p b n fs)
 |0,fs,_,h=>h
 |n+1,fs,hl,h=>by
  unfold zdk;cases (fs.getD n zo).leaving with
  |false=>exact h
  |true=>cases decide (((fs.getD n zo).defers.length:Int)>0) with
   |true=>exact zEZ hp hN h (by omega)
   |false=>exact zwY hp hN (zjF hl) (zul h hl)
theorem zIy {N:Nat} {f:Frm} {c:Val} (h:zgU N f):zgU N (zlg f c):=by
 unfold zlg;cases f.leaving with
 |true=>exact h
 |false=>exact h
theorem zwX {N:Nat} {p:Prg} {g:Gor} {c:Val} (hp:zCU N p) (hN:32≤N) (h:zaW N g):zaW N (zeV p g c):=by
 unfold zeV;cases he:g.frames.isEmpty with
 |true=>exact h
 |false=>
  have h0:0<g.frames.length:=by
   rcases zNl g.frames.length with e|e
   ·rw [zNj.1 e] at he;cases he
   ·exact e
  exact zwY hp hN (by rw [List.length_set]) (zh4 h (zIy (zim h h0)))
theorem zB4 {N M:Nat} {f:Frm} (h:zgU N f) (hl:N≤M):zgU M f:=⟨zNf h.1 hl,zNf h.2.1 hl,fun d hd=>zNf (h.2.2 d hd) hl⟩
theorem zbN {N M:Nat} {g:Gor} (h:zaW N g) (hl:N≤M):zaW M g:=⟨zNf h.1 hl,fun f hf=>zB4 (h.2 f hf) hl⟩
theorem zEY {N M:Nat} {o:Ob} (h:zB5 N o) (hl:N≤M):zB5 M o:=⟨zNf h.1 hl,zNf h.2.1 hl,zNf h.2.2.1 hl,zNf h.2.2.2 hl⟩
theorem z3 {N M:Nat} {m:Mac} (h:zau N m) (hl:N≤M):zau M m:=
 ⟨⟨zNf h.1.1 hl,fun o ho=>zEY (h.1.2 o ho) hl⟩,⟨zNf h.2.1.1 hl,fun s hs=>zNf (h.2.1.2 s hs) hl⟩,⟨zNf h.2.2.1.1 hl,fun g hg=>zbN (h.2.2.1.2 g hg) hl⟩,zNf h.2.2.2 hl⟩
theorem zqD {N:Nat} {m:Mac} {k:Nat} {o:Ob} (h:zau N m) (ho:zB5 (N+1) o) (hk:k<m.goroutines.length):zau (N+1) (zbP m k o):=by
 have h':=z3 h (Nat.le_succ N);have hp:=zjE m.objects (idK m k);refine ⟨⟨?_,fun x hx=>?_⟩,h'.2.1,⟨by rw [zbH];exact h'.2.2.1.1,fun g hg=>?_⟩,h'.2.2.2⟩
 ·show (m.objects.take (placeK m.objects (idK m k))++[_]++m.objects.drop (placeK m.objects (idK m k))).length≤N+1;rw [zNo,zNo,List.length_take,List.length_drop,List.length_singleton];have:=h.1.1;omega
 ·rcases List.mem_append.1 hx with hx|hx
  ·rcases List.mem_append.1 hx with hx|hx
   ·exact h'.1.2 x (List.mem_of_mem_take hx)
   ·rw [List.mem_singleton.1 hx];exact ho
  ·exact h'.1.2 x (List.mem_of_mem_drop hx)
 ·rcases zmp hg with e|e
  ·rw [e];exact zbN (zcD h hk) (Nat.le_succ N)
  ·exact h'.2.2.1.2 g e
theorem ztC {N:Nat} {p:Prg} {m:Mac} {k:Nat} {i:Ins} (hP:zqC N p) (hi:zx6 p i) (hc:(i.op==24)=true→i.c≤(N:Int)) (h64:64≤N) (hb:zce m k i=false):zB5 (N+1) (zrO p m k i):=by
 unfold zrO;cases h1:i.op==21 with
 |true=>
  have:=hi.1 h1;have hl:=hP.2.2.2 _ (getD_mem (d:=([]:List Int)) (show i.b.toNat<p.layouts.length by omega))
  exact ⟨by show (List.map zro _).length≤N+1;rw [List.length_map];omega,zNk _,zNk _,zNk _⟩
 |false=>cases h2:i.op==24 with
  |true=>
   have:=hc h2;exact ⟨by show (_++argsK _ _ _).length≤N+1;rw [zNo,zeq,List.length_singleton];omega,zNk _,zNk _,zNk _⟩
  |false=>
   unfold zce at hb;rw [h1,h2] at hb;simp only [Bool.not_false,Bool.true_and,Bool.or_eq_false_iff,decide_eq_false_iff_not] at hb;cases i.op==23 with
   |true=>exact ⟨zNk _,zNk _,zNk _,zNk _⟩
   |false=>exact ⟨by show (List.replicate _ _).length≤N+1;rw [List.length_replicate];omega,zNk _,zNk _,zNk _⟩
theorem zw9 {p:Prg} {m:Mac} {k:Nat} {i:Ins}:zkP p m k i=zeF m k (bif (zgf p m k i).2.2 != 0 then (m,(zgf p m k i).2.2) else (zn9 (zgf p m k i).1 k i.a (zgf p m k i).2.1,0)):=by
 unfold zkP zs8 zgf;cases zce m k i with
 |true=>rfl
 |false=>cases zaC m k<;>rfl
theorem zoM (m:Mac) (k:Nat) (o:Option Mac):zeF m k (orM m o)=o.getD (zds m k 9):=by
 cases o<;>rfl
theorem zoN {m:Mac} {k:Nat} {a:Int} (q:Val×Int):
  (bif q.2 != 0 then true else true)=true∧(bif q.2 != 0 then (zds m k q.2,()) else (zn9 m k a q.1,()))=(zeF m k (bif q.2 != 0 then (m,q.2) else (zn9 m k a q.1,0)),()):=by
 unfold zeF;cases hq:(q.2 != 0) with
 |true=>simp only [cond_true,hq];exact ⟨by trivial,by trivial⟩
 |false=>exact ⟨rfl,rfl⟩
theorem zuV {N:Nat} {m:Mac} {k:Nat} {d:Dfr} (hN:N<BIG) (h:zau N m) (hk:k<m.goroutines.length) (hf:0<(gorK m k).frames.length) (hd:d.args.length≤BIG):
  (zfe (gorK m k) d&&(zcn m k (zcr (gorK m k) d).1&&zcm (zaT m k (zcr (gorK m k) d).1).1 k (IntKind.i64.wrap ((topK (gorK m k)).pc+(1:Int)))))=true∧
  (zbL (zaT m k (zcr (gorK m k) d).1).1 k (IntKind.i64.wrap ((topK (gorK m k)).pc+(1:Int)))).1=zai m k (bump (zbd (gorK m k) d)):=by
 have hB:zau BIG m:=z3 h (by omega)
 have hg:zaW BIG (gorK m k):=zcD hB hk;have hD:=zyg (g:=gorK m k) (d:=d) hg hf hd;have hsz:zaW BIG (zbd (gorK m k) d):=zz8 hg hf hd (by have:=(zim (zcD h hk) hf).2.1;omega)
 have hW:=zhv (x:=zbd (gorK m k) d) hB hsz hk;have hJ:=zjK (m:=zai m k (zbd (gorK m k) d)) (k:=k) (pc:=IntKind.i64.wrap ((topK (gorK m k)).pc+(1:Int))) (zjS hB hsz) (by rw [zas];exact hk) (by rw [zT hk];unfold zbd;rw [zco];exact hf)
 simp only [hD.1,hD.2,hW.1,hW.2,hJ.1,hJ.2,Bool.and_self,zAK m k d hk hf,and_self]
theorem zym {N:Nat} {p:Prg} {m:Mac} {k:Nat} {i:Ins} (hN:N<BIG) (h64:64≤N) (hP:zqC N p) (hp:zCU N p) (hi:zFM p i) (hc:(i.op==24)=true→i.c≤(N:Int)) (h:zau N m) (hs:zbv m.objects) (hk:k<m.goroutines.length) (hk8:k<8) (hf:0<(gorK m k).frames.length) (hnew:za4 m.objects (idK m k)=false):
  zjL p m k i=true∧zjM p m k i=(zeF m k (zhb p m k i),()):=by
 have hB:zau BIG m:=z3 h (by omega)
 have hPB:zqC BIG p:=⟨⟨zNf hP.1.1 (by omega),fun f hf=>zNf (hP.1.2 f hf) (by omega)⟩,zNf hP.2.1 (by omega),zNf hP.2.2.1 (by omega),fun l hl=>zNf (hP.2.2.2 l hl) (by omega)⟩
 have hpB:zml p:=ziz hp (by omega)
 have hg:zaW BIG (gorK m k):=zcD hB hk;have hA:zce m k i=false→zaC m k=true→zau BIG (zbP m k (zrO p m k i)):=fun e _=>z3 (zqD h (ztC hP hi.1 hc h64 e) hk) (by omega)
 have hal:=zqZ hPB hi.1 hB hs hk hk8 hf hnew hA;rw [zpR,zpQ];unfold zmR zmS;rw [show m.goroutines.getD (Int.toNat (k:Int)) zan=gorK m k from rfl];have hr:∀r:Int,zek (gorK m k) r=true∧zZ (gorK m k) r=(zac (gorK m k) r,()):=fun r=>zpJ hg.1;have hput:∀(r:Int) (v:Val),zbs m k r v=true∧zaf m k r v=(zn9 m k r v,()):=fun r v=>zwk hB hk hf;have hfail:∀f:Int,zbb m k f=true∧zK m k f=(zds m k f,()):=fun f=>zhu hB hk;have hjump:∀c:Int,zcm m k c=true∧zbL m k c=(zk8 m k c,()):=fun c=>zjK hB hk hf;have hpc:=zt0 hB hk hf;have href:∀(v:Val) (o:Int),zfh m v o=true∧zbl m v o=((zgp m v o).1,(zgp m v o).2,()):=fun v o=>zyu hB;have hload:∀v:Val,zhm m v=true∧zcg m v=((loadK m v).1,(loadK m v).2,()):=fun v=>zr5 hB;have hclo:∀v:Val,zeA p m v=true∧zbV p m v=((zt p m v).1,(zt p m v).2,()):=fun v=>ztY hB;have hfind:∀n:Int,zfO m n=true∧zaS m n=(match zin m.objects n with|some o=>(o,true,())|none=>(zG1,false,())):=fun n=>zmB hB
 simp only [(hr _).1,(hr _).2,(hput _ _).1,(hput _ _).2,(hfail _).1,(hfail _).2,(hjump _).1,(hjump _).2,hpc.1,hpc.2,(href _ _).1,(href _ _).2,(hload _).1,(hload _).2,(hclo _).1,(hclo _).2,(hfind _).1,hal.1,hal.2,(zdI _).1,(zdI _).2,(zeB _).1,(zeB _).2,(ziZ _ _ _).1,(ziZ _ _ _).2,zbq hk,Bool.true_and];obtain ⟨op,ia,ib,ic⟩:=i;obtain ⟨_,o1,o2,o3⟩:=hi;have hcases:op=1∨op=2∨op=3∨op=4∨op=5∨op=6∨op=7∨op=8∨op=9∨op=10∨op=11∨op=12∨op=13∨op=14∨op=15∨op=16∨op=17∨op=18∨op=19∨op=20∨op=21∨op=22∨op=23∨op=24∨op=25∨op=26∨op=27∨op=28∨op=29∨op=30:=by
  simp only at o1 o2;omega
 clear o1 o2;have hargs:0≤ib∧ib<(p.funcs.length:Int)→(p.funcs.getD ib.toNat dFnc).params≤(BIG:Int)∧decide (0≤ib∧ib<(p.funcs.length:Int))=true:=fun e=>by
  have:=hp _ (getD_mem (d:=dFnc) (show ib.toNat<p.funcs.length by omega))
  exact ⟨by omega,decide_eq_true e⟩
 rcases hcases with e|e|e|e|e|e|e|e|e|e|e|e|e|e|e|e|e|e|e|e|e|e|e|e|e|e|e|e|e|e<;>subst e
 all_goals first
  |exact ⟨rfl,rfl⟩
  |exact ⟨rfl,congrArg (·,()) zw9⟩
  |skip
 ·exact zoN (zqN 7 (zac (gorK m k) ib) (zac (gorK m k) ic))
 ·exact zoN (zqN 8 (zac (gorK m k) ib) (zac (gorK m k) ic))
 ·have hq:=(hfind (zac (gorK m k) ib).n).2;show (bif (zac (gorK m k) ib).kind != 1 then bif !((zac (gorK m k) ib).kind != 2) then bif !(zaS m (zac (gorK m k) ib).n).2.1 then true else true else true else true)=true∧(bif (zac (gorK m k) ib).kind != 1 then bif !((zac (gorK m k) ib).kind != 2) then bif !(zaS m (zac (gorK m k) ib).n).2.1 then (zds m k 1,()) else (zn9 m k ia ⟨0,((zaS m (zac (gorK m k) ib).n).1.cells_.length:Int),0⟩,()) else (zds m k 1,()) else (zn9 m k ia ⟨0,0,0⟩,()))=(zeF m k (bif (zrd m (zac (gorK m k) ib)).2 != 0 then (m,(zrd m (zac (gorK m k) ib)).2) else (zn9 m k ia (zrd m (zac (gorK m k) ib)).1,0)),())
  rw [hq];unfold zrd;rw [show ((zac (gorK m k) ib).kind != 1)= !((zac (gorK m k) ib).kind==1) from rfl];cases ((zac (gorK m k) ib).kind==1) with
  |true=>exact ⟨rfl,rfl⟩
  |false=>cases zin m.objects (zac (gorK m k) ib).n with
   |none=>cases ((zac (gorK m k) ib).kind != 2)<;>exact ⟨rfl,rfl⟩
   |some o=>cases ((zac (gorK m k) ib).kind != 2)<;>exact ⟨rfl,rfl⟩
 ·show (bif zga (zac (gorK m k) ia)==0 then true else true)=true∧(bif zga (zac (gorK m k) ia)==0 then (zk8 m k ic,()) else (zk8 m k (IntKind.i64.wrap ((topK (gorK m k)).pc+(1:Int))),()))=(zk8 m k (bif zga (zac (gorK m k) ia)==0 then ic else IntKind.i64.wrap ((topK (gorK m k)).pc+(1:Int))),())
  cases (zga (zac (gorK m k) ia)==0)<;>exact ⟨rfl,rfl⟩
 ·exact zoN (zgp m (zac (gorK m k) ib) (IntKind.i64.wrap ((zac (gorK m k) ib).off+ic)))
 ·exact zoN (zgp m (zac (gorK m k) ib) (zga (zac (gorK m k) ic)))
 ·exact zoN (loadK m ⟨(zac (gorK m k) 0).kind,(zac (gorK m k) 0).n,IntKind.i64.wrap (ib+(1:Int))⟩)
 ·obtain ⟨h1,h2⟩:=hargs (o3 rfl);have ha:=zf1 (g:=gorK m k) (from_:=ic) (n:=(p.funcs.getD ib.toNat dFnc).params) hg.1 h1;have hE:=zpU (fn:=ib) (args:=argsK (gorK m k) ic (p.funcs.getD ib.toNat dFnc).params) (dest:=ia) hpB hB (by rw [zeq];omega) hk hf
  show (decide (0≤ib∧ib<(p.funcs.length:Int))&&(zbu (gorK m k) ic (p.funcs.getD ib.toNat dFnc).params&&r23enter_o p m k ib (r23arguments_s (gorK m k) ic (p.funcs.getD ib.toNat dFnc).params).1 ia))=true∧((zea p m k ib (r23arguments_s (gorK m k) ic (p.funcs.getD ib.toNat dFnc).params).1 ia).1,())=(zeF m k (orM m (zgi p m k ib (argsK (gorK m k) ic (p.funcs.getD ib.toNat dFnc).params) ia)),());rw [h2,ha.1,ha.2,hE.1,hE.2,zoM];exact ⟨rfl,rfl⟩
 ·have hE:=zpU (fn:=(zt p m (zac (gorK m k) ia)).1) (args:=[zac (gorK m k) ia]) (dest:= -1) hpB hB (by have:=zc4;show 1≤BIG;omega) hk hf
  show (bif !(zt p m (zac (gorK m k) ia)).2 then true else r23enter_o p m k (zt p m (zac (gorK m k) ia)).1 [zac (gorK m k) ia] (-1))=true∧(bif !(zt p m (zac (gorK m k) ia)).2 then (zds m k 1,()) else ((zea p m k (zt p m (zac (gorK m k) ia)).1 [zac (gorK m k) ia] (-1)).1,()))=(zeF m k (bif !(zt p m (zac (gorK m k) ia)).2 then (m,1) else orM m (zgi p m k (zt p m (zac (gorK m k) ia)).1 [zac (gorK m k) ia] (-1))),())
  rw [hE.1,hE.2];cases (zt p m (zac (gorK m k) ia)).2 with
  |false=>exact ⟨rfl,rfl⟩
  |true=>exact ⟨rfl,congrArg (·,()) (zoM _ _ _).symm⟩
 ·obtain ⟨h1,h2⟩:=hargs (o3 rfl);have ha:=zf1 (g:=gorK m k) (from_:=ic) (n:=(p.funcs.getD ib.toNat dFnc).params) hg.1 h1;have hE:=zuV (d:=⟨ib,argsK (gorK m k) ic (p.funcs.getD ib.toNat dFnc).params⟩) hN h hk hf (by show (argsK _ _ _).length≤BIG;rw [zeq];omega)
  have ha2:(r23arguments_s (gorK m k) ic (p.funcs.getD ib.toNat dFnc).params).1=argsK (gorK m k) ic (p.funcs.getD ib.toNat dFnc).params:=by rw [ha.2]
  rw [←ha2] at hE;show (decide (0≤ib∧ib<(p.funcs.length:Int))&&(zbu (gorK m k) ic (p.funcs.getD ib.toNat dFnc).params&&_))=true∧(_,())=(zai m k (bump (zbd (gorK m k) ⟨ib,argsK (gorK m k) ic (p.funcs.getD ib.toNat dFnc).params⟩)),());rw [h2,ha.1, ←ha2];exact ⟨hE.1,congrArg (·,()) hE.2⟩
 ·have hE:=zuV (d:=⟨(zt p m (zac (gorK m k) ia)).1,[zac (gorK m k) ia]⟩) hN h hk hf (by have:=zc4;show 1≤BIG;omega)
  show (bif !(zt p m (zac (gorK m k) ia)).2 then true else _)=true∧(bif !(zt p m (zac (gorK m k) ia)).2 then (zds m k 1,()) else (_,()))=(zeF m k (bif !(zt p m (zac (gorK m k) ia)).2 then (m,1) else (zai m k (bump (zbd (gorK m k) ⟨(zt p m (zac (gorK m k) ia)).1,[zac (gorK m k) ia]⟩)),0)),())
  cases (zt p m (zac (gorK m k) ia)).2 with
  |false=>exact ⟨rfl,rfl⟩
  |true=>exact ⟨hE.1,congrArg (·,()) hE.2⟩
 ·have hL:∀v:Val,(zfg p (gorK m k) v&&zcn m k (zcX p (gorK m k) v).1)=true∧(zaT m k (zcX p (gorK m k) v).1).1=zai m k (zeV p (gorK m k) v):=fun v=>by
   have e:=zyj (c:=v) hpB hg;have hW:=zhv (x:=zeV p (gorK m k) v) hB (zwX (ziz hp (show N≤BIG by omega)) (by omega) hg) hk
   simp only [e.1,e.2,hW.1,hW.2,Bool.and_self,and_self]
  show (bif decide (ia<0) then _ else _)=true∧(bif decide (ia<0) then (_,()) else (_,()))=(zai m k (zeV p (gorK m k) (bif decide (ia<0) then ⟨0,0,0⟩ else zac (gorK m k) ia)),())
  cases decide (ia<0) with
  |true=>exact ⟨(hL _).1,congrArg (·,()) (hL _).2⟩
  |false=>exact ⟨(hL _).1,congrArg (·,()) (hL _).2⟩
noncomputable def ztx (p0:Prg) (x0:Vmx) (a:Int) (b:Ins):Vmx×Int×Unit:=let x1:=List.getD x0.m.goroutines (Int.toNat a) zan;
let x2:=Vm.mk p0 x0.m x0.events x0.gs;
let x3:=x1.frames;
let x4:=(zeC x2 a b.a).fst;
let x5:=[x4];
let x6:=(zbz p0 x0 a b).snd.snd.fst;
let x7:=(zgu x2 a b.c (List.getD p0.funcs (Int.toNat b.b) dFnc).params).fst;
let x8:=Int.toNat (IntKind.i64.wrap ((x3.length:Int) - (1:Int)));
let x9:=(zdm x2 x4).fst;
let x10:= !(zdm x2 x4).snd.fst;
let x11:=(zwx p0 (zbz p0 x0 a b).fst a b.a (zbz p0 x0 a b).snd.fst).fst;
let x12:=x11.m;
let x13:=x12.goroutines;
let x14:=List.getD x3 x8 zo;
let x15:=x14.leaving;
let x16:=x14.result;
let x17:=x14.fn;
let x18:=x14.defers;
let x19:=x14.regs;
let x20:=x14.dest;
let x21:=List.getD x13 (Int.toNat a) zan;
let x22:=x21.frames;
let x23:=List.set x0.m.goroutines (Int.toNat a) (zaX x1 (Dfr.mk b.b x7)).fst;
let x24:=List.getD x23 (Int.toNat a) zan;
let x25:=x24.frames;
let x26:=Int.toNat (IntKind.i64.wrap ((x22.length:Int) - (1:Int)));
let x27:=List.set x0.m.goroutines (Int.toNat a) (zaX x1 (Dfr.mk x9 x5)).fst;
let x28:=List.getD x27 (Int.toNat a) zan;
let x29:=Int.toNat (IntKind.i64.wrap ((x25.length:Int) - (1:Int)));
let x30:=x28.frames;
let x31:=Int.toNat (IntKind.i64.wrap ((x30.length:Int) - (1:Int)));
let x32:=List.getD x22 x26 zo;
let x33:=List.getD x25 x29 zo;
let x34:=List.getD x30 x31 zo;
let x35:=List.set x0.m.goroutines (Int.toNat a) (Gor.mk x1.state x1.fault x1.allocs (List.set x3 x8 (Frm.mk x17 (IntKind.i64.wrap (x14.pc+(1:Int))) x19 x20 x18 x15 x16)));
let x36:=List.getD x35 (Int.toNat a) zan;
let x37:=x36.frames;
let x38:=List.getD x37 x8 zo;
bif b.op==(16:Int) then (Vmx.mk (Mac.mk x0.m.objects x0.m.syncs (List.set x0.m.goroutines (Int.toNat a) (Gor.mk x1.state x1.fault x1.allocs (List.set x3 x8 (Frm.mk x17 b.c x19 x20 x18 x15 x16)))) x0.m.output) x0.events x0.gs,(0:Int),()) else bif b.op==(17:Int) then bif (zab x4).fst==(0:Int) then (Vmx.mk (Mac.mk x0.m.objects x0.m.syncs (List.set x35 (Int.toNat a) (Gor.mk x36.state x36.fault x36.allocs (List.set x37 x8 (Frm.mk x38.fn b.c x38.regs x38.dest x38.defers x38.leaving x38.result)))) x0.m.output) x0.events x0.gs,(0:Int),()) else (Vmx.mk (Mac.mk x0.m.objects x0.m.syncs x35 x0.m.output) x0.events x0.gs,(0:Int),()) else bif b.op==(26:Int) then ((zhI p0 x0 a b.b x7 b.a).fst,(zhI p0 x0 a b.b x7 b.a).snd.fst,()) else bif b.op==(28:Int) then (Vmx.mk (Mac.mk x0.m.objects x0.m.syncs (List.set x23 (Int.toNat a) (Gor.mk x24.state x24.fault x24.allocs (List.set x25 x29 (Frm.mk x33.fn (IntKind.i64.wrap (x33.pc+(1:Int))) x33.regs x33.dest x33.defers x33.leaving x33.result)))) x0.m.output) x0.events x0.gs,(0:Int),()) else bif b.op==(27:Int) then bif x10 then (x0,(1:Int),()) else ((zhI p0 x0 a x9 x5 (-1:Int)).fst,(zhI p0 x0 a x9 x5 (-1:Int)).snd.fst,()) else bif b.op==(29:Int) then bif x10 then (x0,(1:Int),()) else (Vmx.mk (Mac.mk x0.m.objects x0.m.syncs (List.set x27 (Int.toNat a) (Gor.mk x28.state x28.fault x28.allocs (List.set x30 x31 (Frm.mk x34.fn (IntKind.i64.wrap (x34.pc+(1:Int))) x34.regs x34.dest x34.defers x34.leaving x34.result)))) x0.m.output) x0.events x0.gs,(0:Int),()) else bif b.op==(30:Int) then bif decide (b.a<(0:Int)) then (Vmx.mk (Mac.mk x0.m.objects x0.m.syncs (List.set x0.m.goroutines (Int.toNat a) (zcw p0 x1 (zM (0:Int)).fst).fst) x0.m.output) x0.events x0.gs,(0:Int),()) else (Vmx.mk (Mac.mk x0.m.objects x0.m.syncs (List.set x0.m.goroutines (Int.toNat a) (zcw p0 x1 x4).fst) x0.m.output) x0.events x0.gs,(0:Int),()) else bif x6 != (0:Int) then ((zbz p0 x0 a b).fst,x6,()) else (Vmx.mk (Mac.mk x12.objects x12.syncs (List.set x13 (Int.toNat a) (Gor.mk x21.state x21.fault x21.allocs (List.set x22 x26 (Frm.mk x32.fn (IntKind.i64.wrap (x32.pc+(1:Int))) x32.regs x32.dest x32.defers x32.leaving x32.result)))) x12.output) x11.events x11.gs,(0:Int),())
noncomputable def zty (p0:Prg) (x0:Vmx) (a:Int) (b:Ins):Bool:=let x1:=List.getD x0.m.goroutines (Int.toNat a) zan;
let x2:=Vm.mk p0 x0.m x0.events x0.gs;
let x3:=(x1.frames.length:Int);
let x4:=(zeC x2 a b.a).fst;
let x5:=(zbz p0 x0 a b).snd.fst;
let x6:=[x4];
let x7:=zgt x2 a b.c (List.getD p0.funcs (Int.toNat b.b) dFnc).params;
let x8:=zgY x2 x4;
let x9:=(zgu x2 a b.c (List.getD p0.funcs (Int.toNat b.b) dFnc).params).fst;
let x10:=IntKind.i64.wrap (x3 - (1:Int));
let x11:=Dfr.mk b.b x9;
let x12:=(zdm x2 x4).fst;
let x13:= !(zdm x2 x4).snd.fst;
let x14:=(zwx p0 (zbz p0 x0 a b).fst a b.a x5).fst.m.goroutines;
let x15:=(x14.length:Int);
let x16:=Dfr.mk x12 x6;
let x17:=(↑(List.length (List.getD x14 (Int.toNat a) zan).frames):Int);
let x18:=(↑(List.length (List.getD (List.set x0.m.goroutines (Int.toNat a) (zaX x1 x11).fst) (Int.toNat a) zan).frames):Int);
let x19:=IntKind.i64.wrap (x17 - (1:Int));
let x20:=decide ((0:Int)≤b.b∧b.b<(p0.funcs.length:Int));
let x21:=IntKind.i64.wrap (x18 - (1:Int));
let x22:=(↑(List.length (List.getD (List.set x0.m.goroutines (Int.toNat a) (zaX x1 x16).fst) (Int.toNat a) zan).frames):Int);
let x23:=IntKind.i64.wrap (x22 - (1:Int));
decide ((0:Int)≤a∧a<(x0.m.goroutines.length:Int))&&(decide ((0:Int)≤x10∧x10<x3)&&(zii x2 a b.a&&bif b.op==(16:Int) then true else bif b.op==(17:Int) then zbc x4 else bif b.op==(26:Int) then x20&&(x7&&zkV p0 x0 a b.b x9 b.a) else bif b.op==(28:Int) then x20&&(x7&&(zcu x1 x11&&decide ((0:Int)≤x21∧x21<x18))) else bif b.op==(27:Int) then x8&&bif x13 then true else zkV p0 x0 a x12 x6 (-1:Int) else bif b.op==(29:Int) then x8&&bif x13 then true else zcu x1 x16&&decide ((0:Int)≤x23∧x23<x22) else bif b.op==(30:Int) then bif decide (b.a<(0:Int)) then zQ (0:Int)&&zcv p0 x1 (zM (0:Int)).fst else zcv p0 x1 x4 else zjw p0 x0 a b&&bif (zbz p0 x0 a b).snd.snd.fst != (0:Int) then true else zz1 p0 (zbz p0 x0 a b).fst a b.a x5&&(decide ((0:Int)≤a∧a<x15)&&decide ((0:Int)≤x19∧x19<x17))))
noncomputable def zhO:=hide ztx
noncomputable def zn1:=hide zty
theorem zvu:zhO=ztx:=zb _
theorem zvt:zn1=zty:=zb _
noncomputable def zF7:Ctr:=zqP 120 .prg .vmx [.v false (.int .i64), .v false (.st .ins)] [.own (.int .i64)] (vv2 zn1) (vv2 zhO)
noncomputable def zF8:TT:=(((((((((T0.a znP).a zeh).a zdM).a zob).a zuG).a zuS).a zGB).a zAO).a zuT).a znQ
theorem zA9:zi Tryz.prog 134 zF7:=zHu Tryz.f134 zF8 (congrArg vv2 zvt) (congrArg vv2 zvu) 7 217 (fun _ _ _=>noA) 0x100000000e00d3c038000000e38034600000014000100030c000009000000000000000000
def zj8 (x:Vmx) (r:Vmx×Int×Unit) (q:Mac×Int):Prop:=
 r.2.1=q.2∧(q.2=0→r=(⟨q.1,x.events,x.gs⟩,0,()))∧(q.2≠0→r.1=x)
theorem zo6 {x:Vmx} {m m':Mac} (h:m=m'):zj8 x (⟨m,x.events,x.gs⟩,0,()) (m',0):=⟨rfl,fun _=>by rw [h],fun e=>absurd rfl e⟩
theorem zvs {x:Vmx} {o:Option Mac} {r:Vmx×Int×Unit} (e:r=match o with|some m'=>(⟨m',x.events,x.gs⟩,0,())|none=>(x,9,())):zj8 x (r.1,r.2.1,()) (orM x.m o):=by
 rw [e];cases o with
 |none=>exact ⟨rfl,fun e=>absurd e (show (9:Int)≠0 by decide),fun _=>rfl⟩
 |some m'=>exact ⟨rfl,fun _=>rfl,fun e=>absurd rfl e⟩
theorem zAg {p:Prg} {m:Mac} {k:Nat} {i:Ins} (hk:k<m.goroutines.length):(zgf p m k i).1.goroutines.length=m.goroutines.length∧(gorK (zgf p m k i).1 k).frames=(gorK m k).frames:=by
 unfold zgf;cases zce m k i with
 |true=>exact ⟨rfl,rfl⟩
 |false=>cases zaC m k with
  |false=>exact ⟨rfl,rfl⟩
  |true=>exact ⟨zbH,by show (gorK (zbP m k _) k).frames=_;rw [zhJ hk]⟩
theorem zE4 {p:Prg} {m:Mac} {k:Nat} {i:Ins}:(znd p m k i).1=m∨(znd p m k i)=zgf p m k i:=by
 unfold znd;cases i.op==1<;>cases i.op==2<;>cases i.op==3<;>cases i.op==9<;>cases i.op==10<;>cases i.op==15<;>cases i.op==18<;>cases i.op==19<;>cases i.op==20<;>first|exact Or.inl rfl|skip
 cases (i.op==21||i.op==22||i.op==23||i.op==24) with
 |true=>exact Or.inr rfl
 |false=>cases i.op==25<;>exact Or.inl rfl
theorem zIz {N:Nat} {p:Prg} {m:Mac} {k:Nat} {i:Ins} (h64:64≤N) (hP:zqC N p) (hi:zx6 p i) (hc:(i.op==24)=true→i.c≤(N:Int)) (h:zau N m) (hk:k<m.goroutines.length):zau (N+1) (znd p m k i).1:=by
 rcases zE4 (p:=p) (m:=m) (k:=k) (i:=i) with e|e
 ·rw [e];exact z3 h (Nat.le_succ N)
 ·rw [e];unfold zgf;cases hb:zce m k i with
  |true=>exact z3 h (Nat.le_succ N)
  |false=>cases zaC m k with
   |false=>exact z3 h (Nat.le_succ N)
   |true=>exact zqD h (ztC hP hi hc h64 hb) hk
theorem zAb {p:Prg} {m:Mac} {k:Nat} {i:Ins} (hk:k<m.goroutines.length):(znd p m k i).1.goroutines.length=m.goroutines.length∧(gorK (znd p m k i).1 k).frames=(gorK m k).frames:=by
 rcases zE4 (p:=p) (m:=m) (k:=k) (i:=i) with e|e
 ·rw [e];exact ⟨rfl,rfl⟩
 ·rw [e];exact zAg hk
theorem zrz {x:Vmx} {k:Nat} {d:Dfr} (hB:zau BIG x.m) (hk:k<x.m.goroutines.length) (hf:0<(gorK x.m k).frames.length) (hd:d.args.length≤BIG) (G:Gor) (hG:G=(zaX (gorK x.m k) d).1):
  let x27:=List.set x.m.goroutines k G;let x28:=List.getD x27 k zan;let x31:=Int.toNat (IntKind.i64.wrap ((x28.frames.length:Int) - (1:Int)));let x34:=List.getD x28.frames x31 zo
  (zcu (gorK x.m k) d&&decide ((0:Int)≤IntKind.i64.wrap ((x28.frames.length:Int) - (1:Int))∧IntKind.i64.wrap ((x28.frames.length:Int) - (1:Int))<(x28.frames.length:Int)))=true∧
  zj8 x (Vmx.mk (Mac.mk x.m.objects x.m.syncs (List.set x27 k (Gor.mk x28.state x28.fault x28.allocs (List.set x28.frames x31 (Frm.mk x34.fn (IntKind.i64.wrap (x34.pc+(1:Int))) x34.regs x34.dest x34.defers x34.leaving x34.result)))) x.m.output) x.events x.gs,(0:Int),()) (zai x.m k (bump (zbd (gorK x.m k) d)),0):=by
 have hg:zaW BIG (gorK x.m k):=zcD hB hk;have hD:=zqj (g:=gorK x.m k) (d:=d) hg hf hd;rw [hD.2] at hG;subst hG;have hlen:(zbd (gorK x.m k) d).frames.length=(gorK x.m k).frames.length:=zco _ _;have e2:=zb0 (n:=(zbd (gorK x.m k) d).frames.length) (by rw [hlen];exact hg.1) (by rw [hlen];exact hf)
 intro x27 x28 x31 x34;have h28:x28=zbd (gorK x.m k) d:=zbp hk;have h31:x31=(zbd (gorK x.m k) d).frames.length - 1:=by
  show Int.toNat (IntKind.i64.wrap ((x28.frames.length:Int) - (1:Int)))=_;rw [h28,e2];rfl
 refine ⟨?_,zo6 ?_⟩
 ·rw [hD.1,h28,e2,zbq (by omega)];rfl
 ·show Mac.mk _ _ (List.set (List.set x.m.goroutines k (zbd (gorK x.m k) d)) k _) _=_;rw [List.set_set,show x34=List.getD x28.frames x31 zo from rfl,h31,h28];rfl
theorem zDr {N:Nat} {p:Prg} {x:Vmx} {k:Nat} {i:Ins} (hN:N<BIG) (h64:64≤N) (hP:zqC N p) (hp:zCU N p) (hi:zFM p i) (hc:(i.op==24)=true→i.c≤(N:Int)) (h:zau N x.m) (hs:zbv x.m.objects) (hk:k<x.m.goroutines.length) (hk8:k<8) (hf:0<(gorK x.m k).frames.length):
  zn1 p x k i=true∧zj8 x (zhO p x k i) (zhb p x.m k i):=by
 have hB:zau BIG x.m:=z3 h (by omega)
 have hPB:zqC BIG p:=⟨⟨zNf hP.1.1 (by omega),fun f hf=>zNf (hP.1.2 f hf) (by omega)⟩,zNf hP.2.1 (by omega),zNf hP.2.2.1 (by omega),fun l hl=>zNf (hP.2.2.2 l hl) (by omega)⟩
 have hpB:zml p:=ziz hp (by omega)
 have hg:zaW BIG (gorK x.m k):=zcD hB hk;rw [zvu,zvt];unfold ztx zty;rw [show x.m.goroutines.getD (Int.toNat (k:Int)) zan=gorK x.m k from rfl];have hr:∀r:Int,zii (⟨p,x.m,x.events,x.gs⟩:Vm) (k:Int) r=true∧zeC (⟨p,x.m,x.events,x.gs⟩:Vm) (k:Int) r=(zac (gorK x.m k) r,()):=fun r=>zt5 (v:=⟨p,x.m,x.events,x.gs⟩) hB hk hf;have hclo:∀v:Val,zgY (⟨p,x.m,x.events,x.gs⟩:Vm) v=true∧zdm (⟨p,x.m,x.events,x.gs⟩:Vm) v=((zt p x.m v).1,(zt p x.m v).2,()):=fun v=>zxG (v:=⟨p,x.m,x.events,x.gs⟩) hB hs;have hlv:∀v:Val,zcv p (gorK x.m k) v=true∧zcw p (gorK x.m k) v=(zeV p (gorK x.m k) v,()):=fun v=>zqr hpB hg;have e2:=zb0 hg.1 hf;have hl:(gorK x.m k).frames.length - 1<(gorK x.m k).frames.length:=by omega
 simp only [(hr _).1,(hr _).2,(hclo _).1,(hclo _).2,(hlv _).1,(hlv _).2,(zf4 _).1,(zf4 _).2,(zh8 _).1,(zh8 _).2,e2,Int.toNat_natCast,zbq hk,zbq hl,Bool.true_and];obtain ⟨op,ia,ib,ic,iat⟩:=i;obtain ⟨hi1,o1,o2,o3⟩:=hi;have hargs:0≤ib∧ib<(p.funcs.length:Int)→(p.funcs.getD ib.toNat dFnc).params≤(BIG:Int)∧decide (0≤ib∧ib<(p.funcs.length:Int))=true:=fun e=>by
  have:=hp _ (getD_mem (d:=dFnc) (show ib.toNat<p.funcs.length by omega))
  exact ⟨by omega,decide_eq_true e⟩
 by_cases q16:op=16
 ·subst q16;exact ⟨rfl,zo6 rfl⟩
 by_cases q17:op=17
 ·subst q17;show true=true∧zj8 x (bif zga (zac (gorK x.m k) ia)==0 then _ else _) (zk8 x.m k (bif zga (zac (gorK x.m k) ia)==0 then ic else IntKind.i64.wrap ((topK (gorK x.m k)).pc+(1:Int))),0)
  cases (zga (zac (gorK x.m k) ia)==0) with
  |true=>
   refine ⟨rfl,zo6 ?_⟩;simp only [zbp hk,zbp hl,List.set_set];rfl
  |false=>exact ⟨rfl,zo6 rfl⟩
 by_cases q26:op=26
 ·subst q26;obtain ⟨h1,h2⟩:=hargs (o3 rfl);have ha:=zsH (v:=⟨p,x.m,x.events,x.gs⟩) (k:=k) (from_:=ic) (n:=(p.funcs.getD ib.toNat dFnc).params) hB hk hf h1;have hE:=zuX (x:=x) (k:=k) (fn:=ib) (args:=argsK (gorK x.m k) ic (p.funcs.getD ib.toNat dFnc).params) (dest:=ia) hpB hB hk hf;have ha1:zgt (⟨p,x.m,x.events,x.gs⟩:Vm) (k:Int) ic (p.funcs.getD ib.toNat dFnc).params=true:=ha.1;have ha2:(zgu (⟨p,x.m,x.events,x.gs⟩:Vm) (k:Int) ic (p.funcs.getD ib.toNat dFnc).params).1=argsK (gorK x.m k) ic (p.funcs.getD ib.toNat dFnc).params:=by rw [ha.2]
  rw [←ha2] at hE;show (decide (0≤ib∧ib<(p.funcs.length:Int))&&(zgt (⟨p,x.m,x.events,x.gs⟩:Vm) (k:Int) ic (p.funcs.getD ib.toNat dFnc).params&&_))=true∧zj8 x (_,_,()) (orM x.m (zgi p x.m k ib (argsK (gorK x.m k) ic (p.funcs.getD ib.toNat dFnc).params) ia));rw [h2,ha1, ←ha2];exact ⟨hE.1,zvs hE.2⟩
 by_cases q27:op=27
 ·subst q27;have hE:=zuX (x:=x) (k:=k) (fn:=(zt p x.m (zac (gorK x.m k) ia)).1) (args:=[zac (gorK x.m k) ia]) (dest:= -1) hpB hB hk hf;show (bif !(zt p x.m (zac (gorK x.m k) ia)).2 then true else _)=true∧zj8 x (bif !(zt p x.m (zac (gorK x.m k) ia)).2 then (x,1,()) else (_,_,())) (bif !(zt p x.m (zac (gorK x.m k) ia)).2 then (x.m,1) else orM x.m (zgi p x.m k (zt p x.m (zac (gorK x.m k) ia)).1 [zac (gorK x.m k) ia] (-1)))
  cases (zt p x.m (zac (gorK x.m k) ia)).2 with
  |false=>exact ⟨rfl,rfl,fun e=>absurd e (show (1:Int)≠0 by decide),fun _=>rfl⟩
  |true=>exact ⟨hE.1,zvs hE.2⟩
 by_cases q30:op=30
 ·subst q30;show (bif decide (ia<0) then true else true)=true∧zj8 x (bif decide (ia<0) then _ else _) (zai x.m k (zeV p (gorK x.m k) (bif decide (ia<0) then ⟨0,0,0⟩ else zac (gorK x.m k) ia)),0)
  cases decide (ia<0) with
  |true=>exact ⟨rfl,zo6 rfl⟩
  |false=>exact ⟨rfl,zo6 rfl⟩
 by_cases q28:op=28
 ·subst q28;obtain ⟨h1,h2⟩:=hargs (o3 rfl);have ha:=zsH (v:=⟨p,x.m,x.events,x.gs⟩) (k:=k) (from_:=ic) (n:=(p.funcs.getD ib.toNat dFnc).params) hB hk hf h1;have ha1:zgt (⟨p,x.m,x.events,x.gs⟩:Vm) (k:Int) ic (p.funcs.getD ib.toNat dFnc).params=true:=ha.1;have ha2:(zgu (⟨p,x.m,x.events,x.gs⟩:Vm) (k:Int) ic (p.funcs.getD ib.toNat dFnc).params).1=argsK (gorK x.m k) ic (p.funcs.getD ib.toNat dFnc).params:=by rw [ha.2]
  have hE:=zrz (d:=⟨ib,argsK (gorK x.m k) ic (p.funcs.getD ib.toNat dFnc).params⟩) hB hk hf (by show (argsK _ _ _).length≤BIG;rw [zeq];omega) _ rfl
  rw [←ha2] at hE;show (decide (0≤ib∧ib<(p.funcs.length:Int))&&(zgt (⟨p,x.m,x.events,x.gs⟩:Vm) (k:Int) ic (p.funcs.getD ib.toNat dFnc).params&&_))=true∧zj8 x _ (zai x.m k (bump (zbd (gorK x.m k) ⟨ib,argsK (gorK x.m k) ic (p.funcs.getD ib.toNat dFnc).params⟩)),0);rw [h2,ha1, ←ha2];exact hE
 by_cases q29:op=29
 ·subst q29;have hE:=zrz (d:=⟨(zt p x.m (zac (gorK x.m k) ia)).1,[zac (gorK x.m k) ia]⟩) hB hk hf (by have:=zc4;show 1≤BIG;omega) _ rfl
  show (bif !(zt p x.m (zac (gorK x.m k) ia)).2 then true else _)=true∧zj8 x (bif !(zt p x.m (zac (gorK x.m k) ia)).2 then (x,1,()) else _) (bif !(zt p x.m (zac (gorK x.m k) ia)).2 then (x.m,1) else (zai x.m k (bump (zbd (gorK x.m k) ⟨(zt p x.m (zac (gorK x.m k) ia)).1,[zac (gorK x.m k) ia]⟩)),0))
  cases (zt p x.m (zac (gorK x.m k) ia)).2 with
  |false=>exact ⟨rfl,rfl,fun e=>absurd e (show (1:Int)≠0 by decide),fun _=>rfl⟩
  |true=>exact hE
 have hop:zJ8 op:=⟨o1,by simp only at o2;omega,q16,q17⟩
 have hC:=zxI (x:=x) (k:=k) (i:=⟨op,ia,ib,ic,iat⟩) hPB hi1 hB hs hk hk8 hf hop;have b16:(op==(16:Int))=false:=beq_eq_false_iff_ne.2 q16;have b17:(op==(17:Int))=false:=beq_eq_false_iff_ne.2 q17;have b26:(op==(26:Int))=false:=beq_eq_false_iff_ne.2 q26;have b27:(op==(27:Int))=false:=beq_eq_false_iff_ne.2 q27;have b28:(op==(28:Int))=false:=beq_eq_false_iff_ne.2 q28;have b29:(op==(29:Int))=false:=beq_eq_false_iff_ne.2 q29;have b30:(op==(30:Int))=false:=beq_eq_false_iff_ne.2 q30;have hvs:=zIz (k:=k) (i:=⟨op,ia,ib,ic,iat⟩) h64 hP hi1 hc h hk;have hvg:=zAb (p:=p) (m:=x.m) (k:=k) (i:=⟨op,ia,ib,ic,iat⟩) hk;unfold zhb;simp only [b16,b17,b26,b27,b28,b29,b30,cond_false,hC.1,Bool.true_and];obtain ⟨r1,r2,r3⟩:=hC.2;revert r1 r2 r3 hvs hvg;generalize znd p x.m k ⟨op,ia,ib,ic,iat⟩=q;intro hvs hvg r1 r2 r3;cases hq:(q.2.2 != 0) with
 |true=>
  have hne:q.2.2≠0:=bne_iff_ne.1 hq;rw [r1];simp only [hq,cond_true];exact ⟨by trivial,rfl,fun e=>absurd e hne,fun _=>r3 hne⟩
 |false=>
  have hz:q.2.2=0:=by
   cases hz:decide (q.2.2=0) with
   |true=>exact of_decide_eq_true hz
   |false=>exact absurd (bne_iff_ne.2 (of_decide_eq_false hz)) (by rw [hq];decide)
  have r2:=r2 hz;have hk':k<q.1.goroutines.length:=by rw [hvg.1];exact hk
  have hf':0<(gorK q.1 k).frames.length:=by rw [hvg.2];exact hf
  have hQ:zau BIG q.1:=z3 hvs (by omega)
  have hS:=zIs (p:=p) (x:=⟨q.1,x.events,x.gs⟩) (k:=k) (r:=ia) (v:=q.2.1) hQ hk' hf';have hG:gorK (zai q.1 k (zir (gorK q.1 k) ia q.2.1)) k=zir (gorK q.1 k) ia q.2.1:=zT hk';have hlen:(zir (gorK q.1 k) ia q.2.1).frames.length=(gorK q.1 k).frames.length:=zco _ _;have e3:=zb0 (n:=(zir (gorK q.1 k) ia q.2.1).frames.length) (by rw [hlen];exact (zcD hQ hk').1) (by rw [hlen];exact hf')
  rw [r2];simp only [hz,bne_self_eq_false,cond_false,hS.1,hS.2,Bool.true_and];rw [show List.getD (zai q.1 k (zir (gorK q.1 k) ia q.2.1)).goroutines k zan=zir (gorK q.1 k) ia q.2.1 from hG];simp only [e3,Int.toNat_natCast,zbq (show (zir (gorK q.1 k) ia q.2.1).frames.length - 1<(zir (gorK q.1 k) ia q.2.1).frames.length by omega),zbq (show k<(zai q.1 k (zir (gorK q.1 k) ia q.2.1)).goroutines.length by rw [zas];exact hk'),Bool.true_and]
  refine ⟨by trivial,zo6 ?_⟩
  show zai (zai q.1 k (zir (gorK q.1 k) ia q.2.1)) k (bump (zir (gorK q.1 k) ia q.2.1))=zn9 q.1 k ia q.2.1;rw [zh6];unfold zn9 bump zir;rw [zf8 hf',zlN,zyE]
def codeK (p:Prg) (f:Frm):List Ins:=(p.funcs.getD f.fn.toNat dFnc).code
def zuw (p:Prg) (m:Mac) (k:Nat):Option Ins:=
 bif (gorK m k).state != 0 then none else bif (gorK m k).frames.isEmpty then none else
 bif inR p.funcs (topK (gorK m k)).fn then bif inR (codeK p (topK (gorK m k))) (topK (gorK m k)).pc then some ((codeK p (topK (gorK m k))).getD (topK (gorK m k)).pc.toNat dIns) else none else none
def zKg (o:Option Ins):Ins×Bool×Unit:=match o with|some i=>(i,true,())|none=>(⟨0,0,0,0,0⟩,false,())
theorem zlC {p:Prg} {m:Mac} {k:Nat} (h:zau BIG m) (hk:k<m.goroutines.length):zgo p m k=true∧zcM p m k=zKg (zuw p m k):=by
 have hg:=zcD h hk;rw [zhU,zhT];unfold ziV ziW zuw codeK;rw [show m.goroutines.getD (Int.toNat (k:Int)) zan=gorK m k from rfl];have e1:decide ((k:Int)<(0:Int))=false:=decide_eq_false (by omega)
 have e2:decide ((k:Int)≥(m.goroutines.length:Int))=false:=decide_eq_false (by omega)
 simp only [e1,e2,zbq hk,Bool.not_false,cond_true,Bool.true_and];cases ((gorK m k).state != 0) with
 |true=>exact ⟨by trivial,by trivial⟩
 |false=>
  simp only [Bool.not_false,cond_true,cond_false];rcases zNl (gorK m k).frames.length with h0|h0
  ·have hz:(gorK m k).frames.isEmpty=true:=by rw [zNj.1 h0];rfl
   have hz2:(((gorK m k).frames.length:Int)==0)=true:=by rw [h0];rfl
   simp only [hz,hz2,cond_true];exact ⟨by trivial,by trivial⟩
  ·have e3:=zb0 hg.1 h0;have e4:(((gorK m k).frames.length:Int)==0)=false:=beq_eq_false_iff_ne.2 (by omega)
   simp only [e3,e4,zzJ h0,Int.toNat_natCast,zbq (show (gorK m k).frames.length - 1<(gorK m k).frames.length by omega),cond_false,Bool.true_and]
   rw [show (gorK m k).frames.getD ((gorK m k).frames.length - 1) zo=topK (gorK m k) from rfl];generalize topK (gorK m k)=f;unfold inR;rcases zaN f.fn p.funcs.length with h1|h1|⟨h1,h2⟩
   ·simp only [decide_eq_true h1,decide_eq_false (show ¬(0≤f.fn∧f.fn<(p.funcs.length:Int)) by omega),Bool.not_true,cond_false]
    exact ⟨by trivial,by trivial⟩
   ·simp only [decide_eq_false (show ¬f.fn<0 by omega),decide_eq_true (show f.fn≥(p.funcs.length:Int) from h1),decide_eq_false (show ¬(0≤f.fn∧f.fn<(p.funcs.length:Int)) by omega),Bool.not_true,Bool.not_false,cond_false,cond_true]
    exact ⟨by trivial,by trivial⟩
   ·simp only [decide_eq_false (show ¬f.fn<0 by omega),decide_eq_false (show ¬f.fn≥(p.funcs.length:Int) by omega),decide_eq_true (show (0≤f.fn∧f.fn<(p.funcs.length:Int)) from ⟨h1,h2⟩),Bool.not_false,cond_true,Bool.true_and]
    generalize (p.funcs.getD f.fn.toNat dFnc).code=c;rcases zaN f.pc c.length with h3|h3|⟨h3,h4⟩
    ·simp only [decide_eq_true h3,decide_eq_false (show ¬(0≤f.pc∧f.pc<(c.length:Int)) by omega),Bool.not_true,cond_false]
     exact ⟨by trivial,by trivial⟩
    ·simp only [decide_eq_false (show ¬f.pc<0 by omega),decide_eq_true (show f.pc≥(c.length:Int) from h3),decide_eq_false (show ¬(0≤f.pc∧f.pc<(c.length:Int)) by omega),Bool.not_false,cond_false,cond_true]
     exact ⟨by trivial,by trivial⟩
    ·simp only [decide_eq_false (show ¬f.pc<0 by omega),decide_eq_false (show ¬f.pc≥(c.length:Int) by omega),decide_eq_true (show (0≤f.pc∧f.pc<(c.length:Int)) from ⟨h3,h4⟩),Bool.not_false,cond_false,cond_true]
     exact ⟨by trivial,by trivial⟩
theorem zGh {v:Vm} {k:Nat} (h:zau BIG v.m) (hk:k<v.m.goroutines.length):ztF v k=true∧zkr v k=zKg (zuw v.p v.m k):=by
 have hc:=zlC (p:=v.p) h hk;rw [zhU,zhT] at hc;rw [zzL,zzK];exact hc
def zl6 (op:Int):Bool:=op==31||(op==32||(op==52||(decide (op≥33)&&decide (op≤50))))
theorem zlk (op:Int):zgn op=true∧zey op=(zl6 op,()):=by
 rw [zlm,zll];refine ⟨rfl,?_⟩;unfold ziM zl6;cases (op==31) with
 |true=>rfl
 |false=>cases (op==32) with
  |true=>rfl
  |false=>cases decide (op≥33) with
   |false=>cases (op==52)<;>rfl
   |true=>cases decide (op≤50)<;>cases (op==52)<;>rfl
theorem zi9 (op:Int):zem op=true∧zdc op=(zl6 op,()):=by
 rw [zjb,zja];refine ⟨rfl,?_⟩;unfold zgK zl6;cases (op==31) with
 |true=>rfl
 |false=>cases (op==32) with
  |true=>rfl
  |false=>cases (op==52) with
   |true=>rfl
   |false=>cases decide (op≥33) with
    |false=>rfl
    |true=>cases decide (op≤50)<;>rfl
theorem zzo {p:Prg} {x:Vmx} {k:Nat} {f:Int} (hk:k<x.m.goroutines.length):zoK p x k f=true∧zoL p x k f=(⟨zds x.m k f,x.events,x.gs⟩,()):=by
 rw [zzq,zzp];unfold zxO zxP zds zai;simp only [Int.toNat_natCast,zbq hk,zbp hk,List.set_set];exact ⟨by trivial,by trivial⟩
theorem enterK_allocs {p:Prg} {g x:Gor} {fn:Int} {args:List Val} {dest:Int} (e:zbw p g fn args dest=some x):x.allocs=g.allocs:=by rw [zfr e]
theorem zs9 (p:Prg) (b:Gor) (n:Nat) (fs:List Frm):(zca p b n fs).allocs=b.allocs:=by
 unfold zca;cases he:zbw p ⟨b.state,b.fault,b.allocs,fs.set n (ziF (fs.getD n zo))⟩ (zlb (fs.getD n zo)).fn (zlb (fs.getD n zo)).args (-1) with
 |none=>rfl
 |some y=>exact (enterK_allocs he:y.allocs=(⟨b.state,b.fault,b.allocs,fs.set n (ziF (fs.getD n zo))⟩:Gor).allocs)
theorem zlZ (p:Prg) (b:Gor):∀(n:Nat) (fs:List Frm),(zdk p b n fs).allocs=b.allocs
 |0,_=>rfl
 |n+1,fs=>by
  unfold zdk;cases (fs.getD n zo).leaving with
  |false=>rfl
  |true=>cases decide (((fs.getD n zo).defers.length:Int)>0) with
   |true=>exact zs9 p b n fs
   |false=>exact zlZ p b n _
theorem ztu (p:Prg) (g:Gor) (c:Val):(zeV p g c).allocs=g.allocs:=by
 unfold zeV;cases g.frames.isEmpty with
 |true=>rfl
 |false=>exact zlZ p g _ _
def zqs (N:Nat) (p:Prg) (m:Mac) (k:Nat) (i:Ins) (m':Mac):Prop:=
 (∃g,m'=zai m k g∧g.allocs=(gorK m k).allocs∧zaW (N+1) g)∨
 (∃g,zce m k i=false∧zaC m k=true∧m'=zai (zbP m k (zrO p m k i)) k g∧g.allocs=(gorK m k).allocs+1∧zaW (N+1) g)
theorem zlT {N:Nat} {p:Prg} {m:Mac} {k:Nat} {i:Ins} {f:Int} (h:zau N m) (hk:k<m.goroutines.length):zqs N p m k i (zds m k f):=
 Or.inl ⟨_,rfl,rfl,zbN (N:=N) (zcD h hk) (Nat.le_succ N)⟩
theorem zlW {N:Nat} {p:Prg} {m:Mac} {k:Nat} {i:Ins} {g:Gor} (ha:g.allocs=(gorK m k).allocs) (hg:zaW (N+1) g):zqs N p m k i (zai m k g):=Or.inl ⟨g,rfl,ha,hg⟩
theorem zsv {N:Nat} {p:Prg} {m:Mac} {k:Nat} {i:Ins} {fn:Int} {args:List Val} {dest:Int} (h32:32≤N) (hp:zCU N p) (h:zau N m) (hk:k<m.goroutines.length) (hf:0<(gorK m k).frames.length):zqs N p m k i (zeF m k (orM m (zgi p m k fn args dest))):=by
 have hg:=zcD h hk;unfold zgi;cases he:zbw p (bump (gorK m k)) fn args dest with
 |none=>exact zlT (f:=9) h hk
 |some x=>exact zlW (enterK_allocs he:x.allocs=(bump (gorK m k)).allocs) (zbN (zrA hp h32 (zxC hg hf) he) (Nat.le_succ N))
theorem zsu {N:Nat} {p:Prg} {m:Mac} {k:Nat} {i:Ins} {d:Dfr} (h:zau N m) (hk:k<m.goroutines.length) (hf:0<(gorK m k).frames.length) (hd:d.args.length≤N+1):zqs N p m k i (zai m k (bump (zbd (gorK m k) d))):=by
 have hg:=zcD h hk;refine zlW rfl (zxC (zz8 (zbN hg (Nat.le_succ N)) hf hd ?_) ?_)
 ·have:=(zim hg hf).2.1;omega
 ·unfold zbd;rw [zco];exact hf
theorem zGI {N:Nat} {p:Prg} {m:Mac} {k:Nat} {i:Ins} (h:zau N m) (hk:k<m.goroutines.length) (hf:0<(gorK m k).frames.length):
  zqs N p m k i (zeF m k (bif (znd p m k i).2.2 != 0 then (m,(znd p m k i).2.2) else (zn9 (znd p m k i).1 k i.a (znd p m k i).2.1,0))):=by
 have hg:=zcD h hk;have hput:∀(m':Mac) (r:Int) (v:Val),gorK m' k=gorK m k∨gorK m' k=⟨(gorK m k).state,(gorK m k).fault,(gorK m k).allocs+1,(gorK m k).frames⟩→
   ∃g,zn9 m' k r v=zai m' k g∧g.allocs=(gorK m' k).allocs∧zaW (N+1) g:=fun m' r v hm=>by
  have hg':zaW (N+1) (gorK m' k):=by
   rcases hm with e|e
   ·rw [e];exact zbN hg (Nat.le_succ N)
   ·rw [e];exact zbN (N:=N) hg (Nat.le_succ N)
  have hf':0<(gorK m' k).frames.length:=by
   rcases hm with e|e
   ·rw [e];exact hf
   ·rw [e];exact hf
  exact ⟨_,rfl,rfl,zf7 hg' (zz9 (zyR (zim hg' hf')))⟩
 cases hq:((znd p m k i).2.2 != 0) with
 |true=>
  unfold zeF;simp only [cond_true,hq];exact zlT h hk
 |false=>
  show zqs N p m k i (zn9 (znd p m k i).1 k i.a (znd p m k i).2.1);rcases zE4 (p:=p) (m:=m) (k:=k) (i:=i) with e|e
  ·obtain ⟨g,h1,h2,h3⟩:=hput (znd p m k i).1 i.a (znd p m k i).2.1 (Or.inl (by rw [e]))
   rw [h1,e];rw [e] at h2;exact Or.inl ⟨g,rfl,h2,h3⟩
  ·rw [e] at hq ⊢;unfold zgf at hq ⊢;cases hb:zce m k i with
   |true=>rw [hb] at hq;cases hq
   |false=>cases ha:zaC m k with
    |false=>rw [hb,ha] at hq;cases hq
    |true=>
     obtain ⟨g,h1,h2,h3⟩:=hput (zbP m k (zrO p m k i)) i.a ⟨2,idK m k,0⟩ (Or.inr (zhJ hk));rw [zhJ hk] at h2;exact Or.inr ⟨g,hb,ha,h1,h2,h3⟩
theorem zsw {N:Nat} {p:Prg} {m:Mac} {k:Nat} {i:Ins} (h32:32≤N) (hp:zCU N p) (hi:zFM p i) (h:zau N m) (hk:k<m.goroutines.length) (hf:0<(gorK m k).frames.length):
  zqs N p m k i (zeF m k (zhb p m k i)):=by
 have hg:=zcD h hk;have hpar:(i.op==28)=true→(argsK (gorK m k) i.c (zKt p i)).length≤N+1:=fun e=>by
  have hb:=hi.2.2.2 (by rw [e,Bool.or_true])
  have:=hp _ (getD_mem (d:=dFnc) (show i.b.toNat<p.funcs.length by omega))
  rw [zeq];unfold zKt;omega
 unfold zhb;cases i.op==16 with
 |true=>exact zlW rfl (zbN (zf7 hg (zz9 (zim hg hf))) (Nat.le_succ N))
 |false=>cases i.op==17 with
  |true=>exact zlW rfl (zbN (zf7 hg (zz9 (zim hg hf))) (Nat.le_succ N))
  |false=>cases i.op==26 with
   |true=>exact zsv h32 hp h hk hf
   |false=>cases h28:i.op==28 with
    |true=>exact zsu h hk hf (hpar h28)
    |false=>cases i.op==27 with
     |true=>
      simp only [cond_true,cond_false];cases (zt p m (zac (gorK m k) i.a)).2 with
      |false=>exact zlT (f:=1) h hk
      |true=>exact zsv h32 hp h hk hf
     |false=>cases i.op==29 with
      |true=>
       simp only [cond_true,cond_false];cases (zt p m (zac (gorK m k) i.a)).2 with
       |false=>exact zlT (f:=1) h hk
       |true=>exact zsu h hk hf (Nat.succ_le_succ (zNk N))
      |false=>cases i.op==30 with
       |true=>exact zlW (ztu _ _ _) (zbN (zwX hp h32 hg) (Nat.le_succ N))
       |false=>exact zGI h hk hf
def zA1 (m:Mac):Prop:=∀o∈m.objects,o.id=0∨∃(g:Nat) (n:Int),g<m.goroutines.length∧g<8∧0≤n∧n<(gorK m g).allocs∧o.id=1+(g:Int)+8*n
def zxa (m:Mac):Prop:=∀g,g<m.goroutines.length→0≤(gorK m g).allocs
theorem zGZ {m:Mac} {k:Nat} (h:zA1 m) (ha:zxa m) (hk:k<m.goroutines.length) (hk8:k<8):za4 m.objects (idK m k)=false:=by
 cases hf:za4 m.objects (idK m k) with
 |false=>rfl
 |true=>
  exfalso;have hl:=zk2 hf;have he:(m.objects.getD (placeK m.objects (idK m k)) dOb).id=idK m k:=by
   unfold za4 at hf;simp only [Bool.and_eq_true,beq_iff_eq] at hf;exact hf.2
  have hm:=getD_mem (d:=dOb) hl;revert he hm;generalize m.objects.getD (placeK m.objects (idK m k)) dOb=o;intro he hm;have ha:=ha k hk;unfold idK at he;rcases h o hm with e|⟨g,n,h1,h2,h3,h4,e⟩
  ·omega
  ·have:g=k:=by omega
   subst this;omega
theorem zyM {l:List Ob}:zbv l↔l.Pairwise (fun a b=>a.id<b.id):=by
 rw [List.pairwise_iff_getElem];constructor
 ·intro h i j hi hj hij;have:=h i j hij hj;simpa [List.getD,hi,hj] using this
 ·intro h s t hst ht;have:=h s t (by omega) ht hst
  simpa [List.getD,ht,show s<l.length by omega] using this
theorem zB0 {l:List Ob} {o:Ob} (hs:zbv l) (hn:za4 l o.id=false):zbv (zIP l o):=by
 have hlt:∀y∈l.take (placeK l o.id),y.id<o.id:=fun y hy=>by
  obtain ⟨t,ht,rfl⟩:=List.mem_iff_getElem.1 hy;rw [List.length_take] at ht;have:=ztJ (l:=l) (b:=o.id) (t:=t) (by omega)
  rw [List.getElem_take]
  rwa [List.getD_eq_getElem?_getD,zNg (by omega),Option.getD_some] at this
 have hgt:∀y∈l.drop (placeK l o.id),o.id<y.id:=fun y hy=>by
  obtain ⟨t,ht,rfl⟩:=List.mem_iff_getElem.1 hy;rw [List.length_drop] at ht;rw [List.getElem_drop];have hp:placeK l o.id<l.length:=by omega
  have h1:=zn8 hp;have h2:(l.getD (placeK l o.id) dOb).id≠o.id:=by
   intro e;unfold za4 at hn;rw [decide_eq_true hp,e] at hn;simp at hn
  have h3:(l.getD (placeK l o.id) dOb).id≤(l.getD (placeK l o.id+t) dOb).id:=by
   rcases zNl t with h0|h0
   ·subst h0;exact Int.le_refl _
   ·exact Int.le_of_lt (hs _ _ (by omega) (by omega))
  have e:l.getD (placeK l o.id+t) dOb=l[placeK l o.id+t]:=by
   rw [List.getD_eq_getElem?_getD,zNg (by omega),Option.getD_some]
  rw [e] at h3;omega
 rw [zyM] at hs ⊢;unfold zIP;rw [List.append_assoc,List.pairwise_append];refine ⟨hs.sublist (List.take_sublist _ _),List.pairwise_cons.2 ⟨hgt,hs.sublist (List.drop_sublist _ _)⟩,fun a ha b hb=>?_⟩;have:=hlt a ha;rcases List.mem_cons.1 hb with e|e
 ·subst e;exact this
 ·have:=hgt b e;omega
theorem zko {m:Mac} {k j:Nat} {x:Gor} (h:j≠k):gorK (zai m k x) j=gorK m j:=by
 unfold gorK zai;simp only [List.getD,List.getElem?_set_ne (Ne.symm h)]
theorem zhK {m:Mac} {k j:Nat} {o:Ob} (h:j≠k):gorK (zbP m k o) j=gorK m j:=by
 unfold gorK zbP;simp only [List.getD,List.getElem?_set_ne (Ne.symm h)]
theorem zzA {m:Mac} {k:Nat} {g:Gor} (h:zA1 m) (hk:k<m.goroutines.length) (ha:(gorK m k).allocs≤g.allocs):zA1 (zai m k g):=fun o ho=>by
 rcases h o ho with e|⟨j,n,h1,h2,h3,h4,e⟩
 ·exact .inl e
 ·refine .inr ⟨j,n,by rw [zas];exact h1,h2,h3,?_,e⟩
  by_cases hj:j=k
  ·subst hj;rw [zT hk];omega
  ·rw [zko hj];exact h4
theorem zy2 {m:Mac} {k:Nat} {g:Gor} (h:zxa m) (hk:k<m.goroutines.length) (ha:(gorK m k).allocs≤g.allocs):zxa (zai m k g):=fun j hj=>by
 rw [zas] at hj;by_cases e:j=k
 ·subst e;rw [zT hk];have:=h j hj;omega
 ·rw [zko e];exact h j hj
theorem zC8 {m:Mac} {k:Nat} {o:Ob} {g:Gor} (h:zA1 m) (ha:zxa m) (hk:k<m.goroutines.length) (hk8:k<8) (hg:g.allocs=(gorK m k).allocs+1):zA1 (zai (zbP m k o) k g):=fun x hx=>by
 have hk':k<(zbP m k o).goroutines.length:=by rw [zbH];exact hk
 have hold:∀y∈m.objects,y.id=0∨∃(g':Nat) (n:Int),g'<(zai (zbP m k o) k g).goroutines.length∧g'<8∧0≤n∧n<(gorK (zai (zbP m k o) k g) g').allocs∧y.id=1+(g':Int)+8*n:=fun y hy=>by
  rcases h y hy with e|⟨j,n,h1,h2,h3,h4,e⟩
  ·exact .inl e
  ·refine .inr ⟨j,n,by rw [zas,zbH];exact h1,h2,h3,?_,e⟩
   by_cases hj:j=k
   ·subst hj;rw [zT hk'];omega
   ·rw [zko hj,zhK hj];exact h4
 have hx':x∈zIP m.objects (znC o (idK m k)):=hx;unfold zIP at hx';rcases List.mem_append.1 hx' with hx'|hx'
 ·rcases List.mem_append.1 hx' with hx'|hx'
  ·exact hold x (List.mem_of_mem_take hx')
  ·refine .inr ⟨k,(gorK m k).allocs,by rw [zas];exact hk',hk8,ha k hk,by rw [zT hk',hg];omega,by rw [List.mem_singleton.1 hx'];rfl⟩
 ·exact hold x (List.mem_of_mem_drop hx')
theorem zCl {m:Mac} {k:Nat} {o:Ob} {g:Gor} (ha:zxa m) (hk:k<m.goroutines.length) (hg:g.allocs=(gorK m k).allocs+1):zxa (zai (zbP m k o) k g):=fun j hj=>by
 have hk':k<(zbP m k o).goroutines.length:=by rw [zbH];exact hk
 rw [zas,zbH] at hj;by_cases e:j=k
 ·subst e;rw [zT hk'];have:=ha j hj;omega
 ·rw [zko e,zhK e];exact ha j hj
def zj6 (p:Prg) (fn:Int):List Ins:=(p.funcs.getD fn.toNat dFnc).code
def npc (p:Prg) (fn pc:Int):Prop:=inR p.funcs fn=true→inR (zj6 p fn) pc=true→((zj6 p fn).getD pc.toNat dIns).op≠51
def gpc (p:Prg) (g:Gor):Prop:=∀f∈g.frames,npc p f.fn f.pc
structure POk (N:Nat) (p:Prg):Prop where
 sz:zqC N p
 fn:zCU N p
 ops:∀f∈p.funcs,∀i∈f.code,1≤i.op∧i.op≤52
 ins:∀f∈p.funcs,∀i∈f.code,i.op≤30→zFM p i∧((i.op==24)=true→i.c≤(N:Int))
 jmp:∀f∈p.funcs,∀i∈f.code,(i.op=16∨i.op=17∨i.op=45)→0≤i.c∧i.c<(f.code.length:Int)∧(f.code.getD i.c.toNat dIns).op≠51
 nxt:∀f∈p.funcs,∀j:Nat,j+1<f.code.length→(f.code.getD j dIns).op≠50→(f.code.getD j dIns).op≠51→(f.code.getD (j+1) dIns).op≠51
 fst:∀f∈p.funcs,(f.code.getD 0 dIns).op≠51
theorem zmn {p:Prg} {g:Gor} {f:Frm} (h:gpc p g) (hf:npc p f.fn f.pc):gpc p (zbX g f):=fun x hx=>by
 unfold zbX at hx;rcases zmp hx with e|e
 ·rw [e];exact hf
 ·exact h x e
theorem zDC {N:Nat} {p:Prg} (h:POk N p) (fn:Int):npc p fn 0:=fun h1 _=>by
 have h1:=of_decide_eq_true h1;exact h.fst _ (getD_mem (d:=dFnc) (by omega))
theorem zvc {N:Nat} {p:Prg} {g x:Gor} {fn:Int} {args:List Val} {dest:Int} (hp:POk N p) (h:gpc p g) (e:zbw p g fn args dest=some x):gpc p x:=fun f hf=>by
 rw [zfr e] at hf;rcases List.mem_append.1 hf with hf|hf
 ·exact h f hf
 ·rw [List.mem_singleton.1 hf];exact zDC hp fn
def fpc (p:Prg) (fs:List Frm):Prop:=∀f∈fs,npc p f.fn f.pc
theorem zxR {p:Prg} {fs:List Frm} {n:Nat} {f:Frm} (h:fpc p fs) (hf:npc p f.fn f.pc):fpc p (fs.set n f):=fun x hx=>by
 rcases zmp hx with e|e
 ·rw [e];exact hf
 ·exact h x e
theorem zzv {p:Prg} {fs:List Frm} {n:Nat} (h:fpc p fs):fpc p (fs.take n):=fun x hx=>h x (List.mem_of_mem_take hx)
theorem zoR {p:Prg} {fs:List Frm} {n:Nat} (h:fpc p fs) (hn:n<fs.length):npc p (fs.getD n zo).fn (fs.getD n zo).pc:=h _ (getD_mem hn)
theorem zHM {p:Prg} {n:Nat} {fs:List Frm} (h:fpc p fs) (hl:fs.length=n+1):fpc p (ztK n fs):=by
 unfold ztK;cases (decide (0<n)&&decide ((fs.getD n zo).dest≥0)&&decide ((fs.getD n zo).dest<((fs.getD (n - 1) zo).regs.length:Int))) with
 |true=>exact zzv (zxR h (zoR h (n:=n - 1) (by omega)))
 |false=>exact zzv h
theorem zAZ {N n:Nat} {p:Prg} {b:Gor} {fs:List Frm} (hp:POk N p) (h:fpc p fs) (hn:n<fs.length):gpc p (zca p b n fs):=by
 have hs:fpc p (fs.set n (ziF (fs.getD n zo))):=zxR h (zoR h hn);unfold zca;cases he:zbw p ⟨b.state,b.fault,b.allocs,fs.set n (ziF (fs.getD n zo))⟩ (zlb (fs.getD n zo)).fn (zlb (fs.getD n zo)).args (-1) with
 |none=>exact hs
 |some y=>exact zvc (g:=⟨b.state,b.fault,b.allocs,fs.set n (ziF (fs.getD n zo))⟩) hp hs he
theorem zrD {N:Nat} {p:Prg} {b:Gor} (hp:POk N p):∀{n:Nat} {fs:List Frm},fs.length=n→fpc p fs→gpc p (zdk p b n fs)
 |0,fs,_,h=>h
 |n+1,fs,hl,h=>by
  unfold zdk;cases (fs.getD n zo).leaving with
  |false=>exact h
  |true=>cases decide (((fs.getD n zo).defers.length:Int)>0) with
   |true=>exact zAZ hp h (by omega)
   |false=>exact zrD hp (zjF hl) (zHM h hl)
theorem zC2 {N:Nat} {p:Prg} {g:Gor} {c:Val} (hp:POk N p) (h:gpc p g):gpc p (zeV p g c):=by
 unfold zeV;cases he:g.frames.isEmpty with
 |true=>exact h
 |false=>
  have h0:0<g.frames.length:=by
   rcases zNl g.frames.length with e|e
   ·rw [zNj.1 e] at he;cases he
   ·exact e
  refine zrD hp (by rw [List.length_set]) (zxR h ?_)
  unfold zlg;have:=zoR (p:=p) h (n:=g.frames.length - 1) (by omega)
  cases (topK g).leaving<;>exact this
def zE2 (p:Prg) (g:Gor) (i:Ins):Prop:=0<g.frames.length∧inR p.funcs (topK g).fn=true∧inR (zj6 p (topK g).fn) (topK g).pc=true∧(zj6 p (topK g).fn).getD (topK g).pc.toNat dIns=i
theorem zkS {p:Prg} {m:Mac} {k:Nat} {i:Ins} (h:zuw p m k=some i):(gorK m k).state=0∧zE2 p (gorK m k) i:=by
 unfold zuw at h;cases hs:((gorK m k).state != 0) with
 |true=>rw [hs] at h;cases h
 |false=>
  rw [hs] at h;simp only [cond_false] at h;cases he:(gorK m k).frames.isEmpty with
  |true=>rw [he] at h;cases h
  |false=>
   rw [he] at h;simp only [cond_false] at h;cases h1:inR p.funcs (topK (gorK m k)).fn with
   |false=>rw [h1] at h;cases h
   |true=>
    rw [h1] at h;simp only [cond_true] at h;cases h2:inR (codeK p (topK (gorK m k))) (topK (gorK m k)).pc with
    |false=>rw [h2] at h;cases h
    |true=>
     rw [h2] at h;refine ⟨by simpa using hs,?_,h1,h2,zM8 h⟩
     rcases zNl (gorK m k).frames.length with e|e
     ·rw [zNj.1 e] at he;cases he
     ·exact e
theorem znc {p:Prg} {g:Gor} {i:Ins} (h:zE2 p g i):∃f∈p.funcs,i∈f.code∧f=p.funcs.getD (topK g).fn.toNat dFnc:=by
 obtain ⟨_,h1,h2,h3⟩:=h;have h1:=of_decide_eq_true h1;have h2:=of_decide_eq_true h2;refine ⟨_,getD_mem (d:=dFnc) (show (topK g).fn.toNat<p.funcs.length by omega),?_,rfl⟩
 rw [←h3];exact getD_mem (by unfold zj6 at*;omega)
theorem zzN {N:Nat} {p:Prg} {g:Gor} {i:Ins} (hp:POk N p) (h:zE2 p g i) (hN:N<BIG) (h0:i.op≠50) (h1:i.op≠51):npc p (topK g).fn (IntKind.i64.wrap ((topK g).pc+(1:Int))):=fun _ hi=>by
 obtain ⟨_,a1,a2,a3⟩:=h;have b1:=of_decide_eq_true a1;have b2:=of_decide_eq_true a2;have hm:=getD_mem (d:=dFnc) (show (topK g).fn.toNat<p.funcs.length by omega)
 have hl:(zj6 p (topK g).fn).length≤N:=hp.sz.1.2 _ hm;have hB:=zc4;have e:IntKind.i64.wrap ((topK g).pc+(1:Int))=(((topK g).pc.toNat+1:Nat):Int):=by rw [zav (by omega) (by omega)];omega
 rw [e] at hi ⊢;have hi:=of_decide_eq_true hi;rw [Int.toNat_natCast];have hx:(zj6 p (topK g).fn).getD (topK g).pc.toNat dIns=i:=a3;exact hp.nxt _ hm _ (by unfold zj6 at hi;omega) (by unfold zj6 at hx;rw [hx];exact h0) (by unfold zj6 at hx;rw [hx];exact h1)
theorem zFJ {N:Nat} {p:Prg} {g:Gor} {i:Ins} (hp:POk N p) (h:zE2 p g i) (hN:N<BIG) (h0:i.op≠50) (h1:i.op≠51) (hg:gpc p g):gpc p (bump g):=zmn hg (zzN hp h hN h0 h1)
theorem zk5 {p:Prg} {m:Mac} {k:Nat} {f:Int} (h:gpc p (gorK m k)) (hk:k<m.goroutines.length):gpc p (gorK (zds m k f) k):=by
 unfold zds;rw [zT hk];exact h
theorem zC4 {N:Nat} {p:Prg} {m:Mac} {k:Nat} {fn:Int} {args:List Val} {dest:Int} (hp:POk N p) (h:gpc p (gorK m k)) (hb:gpc p (bump (gorK m k))) (hk:k<m.goroutines.length):gpc p (gorK (zeF m k (orM m (zgi p m k fn args dest))) k):=by
 rw [zoM];unfold zgi;cases he:zbw p (bump (gorK m k)) fn args dest with
 |none=>exact zk5 h hk
 |some x=>rw [Option.map_some,Option.getD_some,zT hk];exact zvc hp hb he
theorem zvb {p:Prg} {g:Gor} {d:Dfr} (h:0<g.frames.length) (hg:gpc p g) (hb:gpc p (bump g)):gpc p (bump (zbd g d)):=by
 have h1:=zoR (p:=p) hb (n:=g.frames.length - 1) (by unfold bump;rw [zco];omega)
 unfold bump at h1;rw [show (zbX g (pcF (topK g) (IntKind.i64.wrap ((topK g).pc+(1:Int))))).frames.getD (g.frames.length - 1) zo=pcF (topK g) (IntKind.i64.wrap ((topK g).pc+(1:Int))) from zbp (by omega)] at h1
 have hd:gpc p (zbd g d):=zmn hg (zoR (p:=p) hg (n:=g.frames.length - 1) (by omega))
 unfold bump;refine zmn hd ?_;unfold zbd;rw [zf8 h];exact h1
theorem zHN {p:Prg} {m:Mac} {k:Nat} {r:Int} {v:Val} (hk:k<m.goroutines.length) (h:0<(gorK m k).frames.length) (hg:gpc p (gorK m k)) (hb:gpc p (bump (gorK m k))):gpc p (gorK (zn9 m k r v) k):=by
 have h1:=zoR (p:=p) hb (n:=(gorK m k).frames.length - 1) (by unfold bump;rw [zco];omega)
 unfold bump at h1;rw [show (zbX (gorK m k) (pcF (topK (gorK m k)) (IntKind.i64.wrap ((topK (gorK m k)).pc+(1:Int))))).frames.getD ((gorK m k).frames.length - 1) zo=pcF (topK (gorK m k)) (IntKind.i64.wrap ((topK (gorK m k)).pc+(1:Int))) from zbp (by omega)] at h1
 unfold zn9;rw [zT hk];refine zmn hg ?_;have e:(zz2 (topK (gorK m k)) r v).fn=(topK (gorK m k)).fn:=by
  unfold zz2;cases inR (topK (gorK m k)).regs r<;>rfl
 show npc p (zz2 (topK (gorK m k)) r v).fn _;rw [e];exact h1
theorem zzx {p:Prg} {m:Mac} {k:Nat} {c:Int} (hk:k<m.goroutines.length) (hg:gpc p (gorK m k)) (h:npc p (topK (gorK m k)).fn c):gpc p (gorK (zk8 m k c) k):=by
 unfold zk8;rw [zT hk];exact zmn hg h
theorem zC3 {N:Nat} {p:Prg} {m:Mac} {k:Nat} {i:Ins} (hp:POk N p) (hN:N<BIG) (hk:k<m.goroutines.length) (hg:gpc p (gorK m k)) (ht:zE2 p (gorK m k) i) (ho:i.op≤30):gpc p (gorK (zeF m k (zhb p m k i)) k):=by
 have h0:i.op≠50:=by omega
 have h1:i.op≠51:=by omega
 have hb:=zFJ hp ht hN h0 h1 hg;have hf:=ht.1;obtain ⟨f,hfm,him,hfe⟩:=znc ht;have hj:i.op=16∨i.op=17→npc p (topK (gorK m k)).fn i.c:=fun e _ _=>by
  have:=hp.jmp f hfm i him (by omega)
  rw [hfe] at this;exact this.2.2
 unfold zhb;cases h16:i.op==16 with
 |true=>exact zzx hk hg (hj (.inl (beq_iff_eq.1 h16)))
 |false=>cases h17:i.op==17 with
  |true=>
   refine zzx hk hg ?_;cases (zga (zac (gorK m k) i.a)==0) with
   |true=>exact hj (.inr (beq_iff_eq.1 h17))
   |false=>exact zzN hp ht hN h0 h1
  |false=>cases i.op==26 with
   |true=>exact zC4 hp hg hb hk
   |false=>cases i.op==28 with
    |true=>
     show gpc p (gorK (zai m k _) k);rw [zT hk];exact zvb hf hg hb
    |false=>cases i.op==27 with
     |true=>
      simp only [cond_true,cond_false];cases (zt p m (zac (gorK m k) i.a)).2 with
      |false=>exact zk5 (f:=1) hg hk
      |true=>exact zC4 hp hg hb hk
     |false=>cases i.op==29 with
      |true=>
       simp only [cond_true,cond_false];cases (zt p m (zac (gorK m k) i.a)).2 with
       |false=>exact zk5 (f:=1) hg hk
       |true=>
        show gpc p (gorK (zai m k _) k);rw [zT hk];exact zvb hf hg hb
      |false=>cases i.op==30 with
       |true=>
        show gpc p (gorK (zai m k _) k);rw [zT hk];exact zC2 hp hg
       |false=>
        simp only [cond_false];cases hq:((znd p m k i).2.2 != 0) with
        |true=>
         unfold zeF;simp only [cond_true,hq];exact zk5 hg hk
        |false=>
         show gpc p (gorK (zn9 (znd p m k i).1 k i.a (znd p m k i).2.1) k);have hv:=zAb (p:=p) (m:=m) (k:=k) (i:=i) hk;have eb:gpc p (gorK (znd p m k i).1 k):=by unfold gpc;rw [hv.2];exact hg
         have eB:gpc p (bump (gorK (znd p m k i).1 k)):=by
          unfold gpc bump zbX topK at hb ⊢;rw [hv.2];exact hb
         exact zHN (by rw [hv.1];exact hk) (by rw [hv.2];exact hf) eb eB
noncomputable def zBU (p0:Prg) (x0:Vmx) (a:Int) (i0:Int×(List Ob)×(List Syn)×(List Gor)×(List Int)×(List Ev)×(List Int)×Unit):Snap:=⟨[(0, .ptr 0 0),(1,vI a),(4,vI (i0.1))],[(0,bC 120 [.lw 2 2 [] 4 p0.funcs.length, .lw 4 4 [] 2 p0.globals.length, .lw 6 6 [] 1 p0.layouts.length,vI p0.main, .lw 20 20 [] 10 (List.length (i0.2.1)), .lw 22 22 [] 6 (List.length (i0.2.2.1)), .lw 24 24 [] 4 (List.length (i0.2.2.2.1)), .lw 26 26 [] 1 (List.length (i0.2.2.2.2.1)), .lw 28 28 [] 9 (List.length (i0.2.2.2.2.2.1)), .lw 30 30 [] 1 (List.length (i0.2.2.2.2.2.2.1))]),(1,bV),(2,bT (Bool.rec .all .none (Bool.true||Bool.false)) (.st .fnc) p0.funcs 1),(3,bV),(4,bT (Bool.rec .all .none (Bool.true||Bool.false)) (.st .glb) p0.globals 3),(5,bV),(6,bT (Bool.rec .all .none (Bool.true||Bool.false)) (RT.list (RT.int IntKind.i64)) p0.layouts 5),(19,bV),(20,bT .all (.st .ob) (i0.2.1) 19),(21,bV),(22,bT .all (.st .syn) (i0.2.2.1) 21),(23,bV),(24,bT .all (.st .gor) (i0.2.2.2.1) 23),(25,bV),(26,bT .all (.int .i64) (i0.2.2.2.2.1) 25),(27,bV),(28,bT .all (.st .ev) (i0.2.2.2.2.2.1) 27),(29,bV),(30,bT .all (.int .i64) (i0.2.2.2.2.2.2.1) 29)],31⟩
noncomputable def zwA (p0:Prg) (x0:Vmx) (a:Int) (u9:(List Ob)×(List Syn)×(List Gor)×(List Int)×(List Ev)×(List Int)×Unit):Snap:=⟨[(0, .ptr 0 0)],[(0,bC 120 [.lw 2 2 [] 4 p0.funcs.length, .lw 4 4 [] 2 p0.globals.length, .lw 6 6 [] 1 p0.layouts.length,vI p0.main, .lw 33 33 [] 10 (List.length (u9.1)), .lw 35 35 [] 6 (List.length (u9.2.1)), .lw 37 37 [] 4 (List.length (u9.2.2.1)), .lw 39 39 [] 1 (List.length (u9.2.2.2.1)), .lw 41 41 [] 9 (List.length (u9.2.2.2.2.1)), .lw 43 43 [] 1 (List.length (u9.2.2.2.2.2.1))]),(1,bV),(2,bT (Bool.rec .all .none (Bool.true||Bool.false)) (.st .fnc) p0.funcs 1),(3,bV),(4,bT (Bool.rec .all .none (Bool.true||Bool.false)) (.st .glb) p0.globals 3),(5,bV),(6,bT (Bool.rec .all .none (Bool.true||Bool.false)) (RT.list (RT.int IntKind.i64)) p0.layouts 5),(32,bV),(33,bT .all (.st .ob) (u9.1) 32),(34,bV),(35,bT .all (.st .syn) (u9.2.1) 34),(36,bV),(37,bT .all (.st .gor) (u9.2.2.1) 36),(38,bV),(39,bT .all (.int .i64) (u9.2.2.2.1) 38),(40,bV),(41,bT .all (.st .ev) (u9.2.2.2.2.1) 40),(42,bV),(43,bT .all (.int .i64) (u9.2.2.2.2.2.1) 42)],44⟩
noncomputable def zee (p0:Prg) (x0:Vmx) (a:Int) (i0:Int×(List Ob)×(List Syn)×(List Gor)×(List Int)×(List Ev)×(List Int)×Unit):(Int×(List Ob)×(List Syn)×(List Gor)×(List Int)×(List Ev)×(List Int)×Unit)⊕((List Ob)×(List Syn)×(List Gor)×(List Int)×(List Ev)×(List Int)×Unit):=let x1:=i0.fst;
let x2:=i0.snd.fst;
let x3:=i0.snd.snd.fst;
let x4:=i0.snd.snd.snd.fst;
let x5:=i0.snd.snd.snd.snd.fst;
let x6:=i0.snd.snd.snd.snd.snd.fst;
let x7:=i0.snd.snd.snd.snd.snd.snd.fst;
let x8:=Mac.mk x2 x3 x4 x5;
let x9:=Vmx.mk x8 x6 x7;
let x10:=(zkr (Vm.mk p0 x8 x6 x7) a).fst;
let x11:=(zoL p0 x9 a (8:Int)).fst;
let x12:=x11.m;
let x13:=(zhO p0 x9 a x10).fst;
let x14:=x13.m;
let x15:=(zhO p0 x9 a x10).snd.fst;
let x16:=(zoL p0 x13 a x15).fst;
let x17:=x16.m;
bif !!(zkr (Vm.mk p0 x8 x6 x7) a).snd.fst then bif (zdc x10.op).fst then Sum.inr (x2,x3,x4,x5,x6,x7,()) else bif decide (x1<(2000:Int)) then bif x15 != (0:Int) then Sum.inr (x17.objects,x17.syncs,x17.goroutines,x17.output,x16.events,x16.gs,()) else Sum.inl (IntKind.i64.wrap (x1+(1:Int)),x14.objects,x14.syncs,x14.goroutines,x14.output,x13.events,x13.gs,()) else Sum.inr (x12.objects,x12.syncs,x12.goroutines,x12.output,x11.events,x11.gs,()) else Sum.inr (x2,x3,x4,x5,x6,x7,())
noncomputable def zhy (p0:Prg) (x0:Vmx) (a:Int) (i0:Int×(List Ob)×(List Syn)×(List Gor)×(List Int)×(List Ev)×(List Int)×Unit):Bool:=let x1:=i0.fst;
let x2:=i0.snd.snd.snd.snd.snd.fst;
let x3:=i0.snd.snd.snd.snd.snd.snd.fst;
let x4:=Mac.mk i0.snd.fst i0.snd.snd.fst i0.snd.snd.snd.fst i0.snd.snd.snd.snd.fst;
let x5:=Vmx.mk x4 x2 x3;
let x6:=Vm.mk p0 x4 x2 x3;
let x7:=(zkr x6 a).fst;
let x8:=x7.op;
let x9:=(zhO p0 x5 a x7).snd.fst;
ztF x6 a&&bif !!(zkr x6 a).snd.fst then zem x8&&bif (zdc x8).fst then true else bif decide (x1<(2000:Int)) then zn1 p0 x5 a x7&&bif x9 != (0:Int) then zoK p0 (zhO p0 x5 a x7).fst a x9 else true else zoK p0 x5 a (8:Int) else true
noncomputable def zqd (p0:Prg) (x0:Vmx) (a:Int):Vmx×Unit:=let y1:=zd (zee p0 x0 a) ([],[],[],[],[],[],()) X_N ((0:Int),x0.m.objects,x0.m.syncs,x0.m.goroutines,x0.m.output,x0.events,x0.gs,());
(Vmx.mk (Mac.mk y1.fst y1.snd.fst y1.snd.snd.fst y1.snd.snd.snd.fst) y1.snd.snd.snd.snd.fst y1.snd.snd.snd.snd.snd.fst,())
noncomputable def zqe (p0:Prg) (x0:Vmx) (a:Int):Bool:=X_wok (zee p0 x0 a) (zhy p0 x0 a) X_N ((0:Int),x0.m.objects,x0.m.syncs,x0.m.goroutines,x0.m.output,x0.events,x0.gs,())
noncomputable def zlP:=hide zqd
noncomputable def zlO:=hide zqe
theorem zsr:zlP=zqd:=zb _
theorem zsq:zlO=zqe:=zb _
noncomputable def zEy:Ctr:=zqP 120 .prg .vmx [.v false (.int .i64)] [] (vv1 zlO) (vv1 zlP)
noncomputable def zEx (p0:Prg) (x0:Vmx) (a:Int):Nat→ze5:=fun q=>match q with|0=> .mk [⟨4,none,(.int .i64)⟩,⟨0,some 4,(.list (.st .ob))⟩,⟨0,some 5,(.list (.st .syn))⟩,⟨0,some 6,(.list (.st .gor))⟩,⟨0,some 7,(.list (.int .i64))⟩,⟨0,some 8,(.list (.st .ev))⟩,⟨0,some 9,(.list (.int .i64))⟩] (zBU p0 x0 a) [⟨.ret,[⟨0,some 4,(.list (.st .ob))⟩,⟨0,some 5,(.list (.st .syn))⟩,⟨0,some 6,(.list (.st .gor))⟩,⟨0,some 7,(.list (.int .i64))⟩,⟨0,some 8,(.list (.st .ev))⟩,⟨0,some 9,(.list (.int .i64))⟩],zwA p0 x0 a⟩] (zee p0 x0 a) (zhy p0 x0 a) (H 0x41042080040000000080041000) (fun (_:Int×(List Ob)×(List Syn)×(List Gor)×(List Int)×(List Ev)×(List Int)×Unit)=>fun _=> .no)|_=> .no
noncomputable def zEz:TT:=(((T0.a znN).a zCQ).a zDA).a zA9
theorem zyH:zi Tryz.prog 65 zEy:=zHu Tryz.f65 zEz (congrArg vv1 zsq) (congrArg vv1 zsr) 7 35 (vv1 zEx) 0x40 (fun p0 x0 zz=>zC [(0,(zaP 0 (bd Tryz.f65)))] (by kernel_rfl) ⟨fun _=>⟨by kernel_rfl,zm (by kernel_rfl)⟩,trivial⟩)
noncomputable def zgS (a:Prg) (b:Mac) (c:Int):Mac×Unit:=((zlP (zcQ a b).fst.fst (zcQ a b).fst.snd c).fst.m,())
noncomputable def zgT (a:Prg) (b:Mac) (c:Int):Bool:=zgr a b&&zlO (zcQ a b).fst.fst (zcQ a b).fst.snd c
noncomputable def zaA:=hide zgS
noncomputable def zcx:=hide zgT
theorem zjp:zaA=zgS:=zb _
theorem zjo:zcx=zgT:=zb _
noncomputable def zrl:Ctr:=zcB [.v true (.st .prg), .bor (.st .mac), .v false (.int .i64)] [.own (.st .mac)] (uu3 zcx) (uu3 zaA)
noncomputable def zrm:TT:=(T0.a zrn).a zyH
theorem znR:zi Tryz.prog 31 zrl:=zcS Tryz.f31 zrm (congrArg uu3 zjo) (congrArg uu3 zjp) 15 18 (fun _=>noA) 0x1000
structure MOk (N:Nat) (p:Prg) (m:Mac):Prop where
 sz:zau N m
 so:zbv m.objects
 ids:zA1 m
 als:zxa m
 n8:m.goroutines.length≤8
 pcs:∀k,k<m.goroutines.length→gpc p (gorK m k)
theorem POk.mono {N M:Nat} {p:Prg} (h:POk N p) (hl:N≤M):POk M p where
 sz:=⟨⟨zNf h.sz.1.1 hl,fun f hf=>zNf (h.sz.1.2 f hf) hl⟩,zNf h.sz.2.1 hl,zNf h.sz.2.2.1 hl,fun l hm=>zNf (h.sz.2.2.2 l hm) hl⟩
 fn:=ziz h.fn hl
 ops:=h.ops
 ins:=fun f hf i hi ho=>⟨(h.ins f hf i hi ho).1,fun e=>by have:=(h.ins f hf i hi ho).2 e;omega⟩
 jmp:=h.jmp
 nxt:=h.nxt
 fst:=h.fst
theorem zKa {op:Int} (h:zl6 op=false) (h1:1≤op) (h2:op≤52) (h3:op≠51):op≤30:=by
 unfold zl6 at h;simp only [Bool.or_eq_false_iff,Bool.and_eq_false_iff,beq_eq_false_iff_ne,decide_eq_false_iff_not] at h;omega
theorem zkT {N:Nat} {p:Prg} {m:Mac} {k:Nat} {i:Ins} (hp:POk N p) (hg:gpc p (gorK m k)) (hc:zuw p m k=some i) (hv:zl6 i.op=false):i.op≤30:=by
 obtain ⟨_,ht⟩:=zkS hc;obtain ⟨f,hf,hi,e⟩:=znc ht;have ho:=hp.ops f hf i hi;refine zKa hv ho.1 ho.2 ?_;have hm:topK (gorK m k)∈(gorK m k).frames:=getD_mem (by have:=ht.1;omega)
 have:=hg _ hm ht.2.1 ht.2.2.1
 rwa [ht.2.2.2] at this
theorem ztj {p:Prg} {m m':Mac} {k:Nat} (h:∀j,j<m.goroutines.length→gpc p (gorK m j)) (hl:m'.goroutines.length=m.goroutines.length) (ho:∀j,j≠k→gorK m' j=gorK m j) (hk:gpc p (gorK m' k)):∀j,j<m'.goroutines.length→gpc p (gorK m' j):=fun j hj=>by
 by_cases e:j=k
 ·subst e;exact hk
 ·rw [ho j e];exact h j (by omega)
theorem MOk.loc {N P:Nat} {p:Prg} {m:Mac} {k:Nat} {i:Ins} (hp:POk P p) (hPN:P≤N) (h64:64≤P) (hN:N<BIG) (h:MOk N p m) (hk:k<m.goroutines.length) (hc:zuw p m k=some i) (hv:zl6 i.op=false):
  MOk (N+1) p (zeF m k (zhb p m k i)):=by
 have hp':=hp.mono hPN;have hg:=h.pcs k hk;have ho:=zkT hp hg hc hv;obtain ⟨_,ht⟩:=zkS hc;obtain ⟨f,hf,him,_⟩:=znc ht;have hi:=hp'.ins f hf i him ho;have hn8:=h.n8;have hpc:=zC3 hp' hN hk hg ht ho;rcases zsw (by omega) hp'.fn hi.1 h.sz hk ht.1 with ⟨g,e,ea,hgs⟩|⟨g,hb,ha,e,ea,hgs⟩
 ·rw [e] at hpc ⊢;exact ⟨zjS (z3 h.sz (Nat.le_succ N)) hgs,h.so,zzA h.ids hk (by omega),zy2 h.als hk (by omega),by rw [zas];exact hn8,ztj h.pcs zas (fun j e=>zko e) hpc⟩
 ·rw [e] at hpc ⊢;have hk':k<(zbP m k (zrO p m k i)).goroutines.length:=by rw [zbH];exact hk
  refine ⟨zjS (zqD h.sz (ztC hp'.sz hi.1.1 hi.2 (by omega) hb) hk) hgs,?_,zC8 h.ids h.als hk (by omega) ea,zCl h.als hk ea,by rw [zas,zbH];exact hn8,ztj h.pcs (by rw [zas,zbH]) (fun j e=>by rw [zko e,zhK e]) hpc⟩
  exact zB0 h.so (zGZ h.ids h.als hk (by omega))
def zaR (p:Prg) (k:Nat):Nat→Mac→Mac
 |0,m=>match zuw p m k with|none=>m|some i=>bif zl6 i.op then m else zds m k 8
 |r+1,m=>match zuw p m k with|none=>m|some i=>bif zl6 i.op then m else zaR p k r (zeF m k (zhb p m k i))
theorem zzj {p:Prg} {m:Mac} {k:Nat} {f:Int} (hk:k<m.goroutines.length):zuw p (zds m k f) k=none:=by
 unfold zuw zds;rw [zT hk];rfl
theorem zyI {p:Prg} {m:Mac} {k:Nat} {f:Int} (hk:k<m.goroutines.length):∀r,zaR p k r (zds m k f)=zds m k f
 |0=>by unfold zaR;rw [zzj hk]
 |r+1=>by unfold zaR;rw [zzj hk]
def zLF (m:Mac):(List Ob)×(List Syn)×(List Gor)×(List Int)×Unit:=(m.objects,m.syncs,m.goroutines,m.output,())
theorem zo4 {N P:Nat} {p:Prg} {m:Mac} {k:Nat} {i:Ins} (hp:POk P p) (hPN:P≤N) (h64:64≤P) (h:MOk N p m) (hk:k<m.goroutines.length) (hc:zuw p m k=some i) (hv:zl6 i.op=false):(zeF m k (zhb p m k i)).goroutines.length=m.goroutines.length:=by
 have hp':=hp.mono hPN;obtain ⟨_,ht⟩:=zkS hc;obtain ⟨f,hf,him,_⟩:=znc ht;have hi:=hp'.ins f hf i him (zkT hp (h.pcs k hk) hc hv);rcases zsw (by omega) hp'.fn hi.1 h.sz hk ht.1 with ⟨g,e,_⟩|⟨g,_,_,e,_⟩
 ·rw [e,zas]
 ·rw [e,zas,zbH]
theorem zwC {N P:Nat} {p:Prg} {m:Mac} {b:Mac} {k:Nat} (hp:POk P p) (hPN:P≤N) (h64:64≤P) (hN:N+2000<BIG) (h:MOk N p m) (hk:k<m.goroutines.length):
  X_wok (zcN p b k) (zez p b k) X_N ((0:Int),m.objects,m.syncs,m.goroutines,m.output,())=true∧zd (zcN p b k) ([],[],[],[],()) X_N ((0:Int),m.objects,m.syncs,m.goroutines,m.output,())=zLF (zaR p k 2000 m):=by
 have hB:=zc4;refine zeS (step:=zcN p b k) (ok:=zez p b k) (d:=([],[],[],[],())) (fun x=>∃(j:Nat) (m':Mac),x=((j:Int),m'.objects,m'.syncs,m'.goroutines,m'.output,())∧j≤2000∧MOk (N+j) p m'∧k<m'.goroutines.length) (fun x=>2000 - x.1.toNat)
  (fun x=>zLF (zaR p k (2000 - x.1.toNat) ⟨x.2.1,x.2.2.1,x.2.2.2.1,x.2.2.2.2.1⟩)) (fun x hx=>?_) ⟨0,m,rfl,zNk _,h,hk⟩ (by show 2000 - 0<X_N;decide)
 obtain ⟨j,m',rfl,hj,hm,hkm⟩:=hx;have hcur:=zlC (p:=p) (z3 hm.sz (show N+j≤BIG by omega)) hkm
 have hn8:=hm.n8;unfold zcN zez;simp only [hcur.1,hcur.2,(zlk _).1,(zlk _).2,Bool.true_and,Int.toNat_natCast];rw [show (⟨m'.objects,m'.syncs,m'.goroutines,m'.output⟩:Mac)=m' from rfl];have hset:∀r,zaR p k r m'=match zuw p m' k with|none=>m'|some i=>bif zl6 i.op then m' else match r with|0=>zds m' k 8|r+1=>zaR p k r (zeF m' k (zhb p m' k i)):=fun r=>by
  cases r with
  |zero=>unfold zaR;rfl
  |succ r=>rw [zaR]
 rw [hset];cases hc:zuw p m' k with
 |none=>exact ⟨rfl, .inr ⟨_,rfl,rfl⟩⟩
 |some i=>
  show (bif zl6 i.op then true else _)=true∧((∃y,(bif zl6 i.op then _ else _)=Sum.inl y∧_)∨∃e,(bif zl6 i.op then _ else _)=Sum.inr e∧zLF (bif zl6 i.op then _ else _)=e)
  cases hv:zl6 i.op with
  |true=>exact ⟨rfl, .inr ⟨_,rfl,rfl⟩⟩
  |false=>
   simp only [cond_false];obtain ⟨_,ht⟩:=zkS hc;obtain ⟨f,hf,him,_⟩:=znc ht;have hp':=hp.mono (show P≤N+j by omega)
   have hi:=hp'.ins f hf i him (zkT hp (hm.pcs k hkm) hc hv);by_cases hz:j=2000
   ·subst hz;have hF:=zhu (fault:=8) (z3 hm.sz (show N+2000≤BIG by omega)) hkm
    have e1:(((2000:Nat):Int)==(2000:Int))=true:=rfl;simp only [e1,cond_true,hF.1,hF.2];exact ⟨by trivial, .inr ⟨_,rfl,rfl⟩⟩
   ·have e1:((j:Int)==(2000:Int))=false:=beq_eq_false_iff_ne.2 (by omega)
    have hL:=zym (i:=i) (show N+j<BIG by omega) (by omega) hp'.sz hp'.fn hi.1 hi.2 hm.sz hm.so hkm (by omega) ht.1 (zGZ hm.ids hm.als hkm (by omega))
    have hM:=MOk.loc hp (show P≤N+j by omega) h64 (by omega) hm hkm hc hv
    have hl:=zo4 hp (show P≤N+j by omega) h64 hm hkm hc hv
    have ew:IntKind.i64.wrap ((j:Int)+(1:Int))=((j+1:Nat):Int):=by rw [zav (by omega) (by omega)];rfl
    have ii:(zKg (some i)).1=i:=rfl;simp only [e1,ii,cond_false,hL.1,hL.2,ew];refine ⟨by trivial, .inl ⟨_,rfl,⟨j+1,_,rfl,by omega,hM,by rw [hl];exact hkm⟩,by simp only [Int.toNat_natCast];omega,?_⟩⟩
    rw [show 2000 - j=(2000 - (j+1))+1 by omega]
    simp only [Int.toNat_natCast,hv,cond_false]
theorem zwc {N P:Nat} {p:Prg} {m:Mac} {k:Nat} (hp:POk P p) (hPN:P≤N) (h64:64≤P) (hN:N+2000<BIG) (h:MOk N p m) (hk:k<m.goroutines.length):
  zd9 p m k=true∧zb4 p m k=(zaR p k 2000 m,()):=by
 have hc:=zfa (z3 h.sz (show N≤BIG by omega))
 have hl:=zwC (b:=m) hp hPN h64 hN h hk;rw [zno,znn];unfold zkD zkE;simp only [hc.1,hc.2,hl.1,hl.2,Bool.and_self];exact ⟨by trivial,by trivial⟩
def zLG (m:Mac) (ev:List Ev) (gs:List Int):(List Ob)×(List Syn)×(List Gor)×(List Int)×(List Ev)×(List Int)×Unit:=(m.objects,m.syncs,m.goroutines,m.output,ev,gs,())
theorem zwB {N P:Nat} {p:Prg} {x b:Vmx} {k:Nat} (hp:POk P p) (hPN:P≤N) (h64:64≤P) (hN:N+2000<BIG) (h:MOk N p x.m) (hk:k<x.m.goroutines.length):
  X_wok (zee p b k) (zhy p b k) X_N ((0:Int),x.m.objects,x.m.syncs,x.m.goroutines,x.m.output,x.events,x.gs,())=true∧zd (zee p b k) ([],[],[],[],[],[],()) X_N ((0:Int),x.m.objects,x.m.syncs,x.m.goroutines,x.m.output,x.events,x.gs,())=zLG (zaR p k 2000 x.m) x.events x.gs:=by
 have hB:=zc4;refine zeS (step:=zee p b k) (ok:=zhy p b k) (d:=([],[],[],[],[],[],())) (fun y=>∃(j:Nat) (m':Mac),y=((j:Int),m'.objects,m'.syncs,m'.goroutines,m'.output,x.events,x.gs,())∧j≤2000∧MOk (N+j) p m'∧k<m'.goroutines.length) (fun y=>2000 - y.1.toNat)
  (fun y=>zLG (zaR p k (2000 - y.1.toNat) ⟨y.2.1,y.2.2.1,y.2.2.2.1,y.2.2.2.2.1⟩) x.events x.gs) (fun y hy=>?_) ⟨0,x.m,rfl,zNk _,h,hk⟩ (by show 2000 - 0<X_N;decide)
 obtain ⟨j,m',rfl,hj,hm,hkm⟩:=hy;have hcur:=zGh (v:=⟨p,m',x.events,x.gs⟩) (z3 hm.sz (show N+j≤BIG by omega)) hkm
 have hn8:=hm.n8;unfold zee zhy;simp only [Int.toNat_natCast];rw [show (⟨m'.objects,m'.syncs,m'.goroutines,m'.output⟩:Mac)=m' from rfl];simp only [hcur.1,hcur.2,(zi9 _).1,(zi9 _).2,Bool.true_and];have hset:∀r,zaR p k r m'=match zuw p m' k with|none=>m'|some i=>bif zl6 i.op then m' else match r with|0=>zds m' k 8|r+1=>zaR p k r (zeF m' k (zhb p m' k i)):=fun r=>by
  cases r with
  |zero=>unfold zaR;rfl
  |succ r=>rw [zaR]
 rw [hset];cases hc:zuw p m' k with
 |none=>exact ⟨rfl, .inr ⟨_,rfl,rfl⟩⟩
 |some i=>
  show (bif zl6 i.op then true else _)=true∧((∃y,(bif zl6 i.op then _ else _)=Sum.inl y∧_)∨∃e,(bif zl6 i.op then _ else _)=Sum.inr e∧zLG (bif zl6 i.op then _ else _) _ _=e)
  cases hv:zl6 i.op with
  |true=>exact ⟨rfl, .inr ⟨_,rfl,rfl⟩⟩
  |false=>
   simp only [cond_false];obtain ⟨_,ht⟩:=zkS hc;obtain ⟨f,hf,him,_⟩:=znc ht;have hp':=hp.mono (show P≤N+j by omega)
   have hi:=hp'.ins f hf i him (zkT hp (hm.pcs k hkm) hc hv);by_cases hz:j=2000
   ·subst hz;have hF:=zzo (p:=p) (x:=⟨m',x.events,x.gs⟩) (f:=8) hkm;have e1:decide (((2000:Nat):Int)<(2000:Int))=false:=rfl;simp only [e1,cond_false,hF.1,hF.2];exact ⟨by trivial, .inr ⟨_,rfl,rfl⟩⟩
   ·have e1:decide ((j:Int)<(2000:Int))=true:=decide_eq_true (by omega)
    have hL:=zDr (x:=⟨m',x.events,x.gs⟩) (i:=i) (show N+j<BIG by omega) (by omega) hp'.sz hp'.fn hi.1 hi.2 hm.sz hm.so hkm (by omega) ht.1
    have hM:=MOk.loc hp (show P≤N+j by omega) h64 (by omega) hm hkm hc hv
    have hl:=zo4 hp (show P≤N+j by omega) h64 hm hkm hc hv
    have ew:IntKind.i64.wrap ((j:Int)+(1:Int))=((j+1:Nat):Int):=by rw [zav (by omega) (by omega)];rfl
    obtain ⟨r1,r2,r3⟩:=hL.2;have ii:(zKg (some i)).1=i:=rfl;simp only [e1,cond_true,ii,hL.1,Bool.true_and,r1];revert hM hl r1 r2 r3;rw [show 2000 - j=(2000 - (j+1))+1 by omega]
    simp only [Nat.add_one];generalize zhb p m' k i=q;intro hM hl r1 r2 r3;cases hq:(q.2 != 0) with
    |true=>
     have hne:q.2≠0:=bne_iff_ne.1 hq;have hF:=zzo (p:=p) (x:=⟨m',x.events,x.gs⟩) (f:=q.2) hkm;have r3:=r3 hne;have e5:zeF m' k q=zds m' k q.2:=by unfold zeF;rw [hq];rfl
     simp only [cond_true,r3,hF.1,hF.2,e5,zyI hkm];exact ⟨by trivial, .inr ⟨_,rfl,rfl⟩⟩
    |false=>
     have hz:q.2=0:=by
      cases hz:decide (q.2=0) with
      |true=>exact of_decide_eq_true hz
      |false=>exact absurd (bne_iff_ne.2 (of_decide_eq_false hz)) (by rw [hq];decide)
     have r2:=r2 hz;have e5:zeF m' k q=q.1:=by unfold zeF;rw [hq];rfl
     rw [e5] at hM hl ⊢;simp only [cond_false,r2,ew];refine ⟨by trivial, .inl ⟨_,rfl,⟨j+1,_,rfl,by omega,hM,by rw [hl];exact hkm⟩,by simp only [Int.toNat_natCast];omega,?_⟩⟩
     simp only [Int.toNat_natCast,hv,cond_false]
theorem zBV {N P:Nat} {p:Prg} {x:Vmx} {k:Nat} (hp:POk P p) (hPN:P≤N) (h64:64≤P) (hN:N+2000<BIG) (h:MOk N p x.m) (hk:k<x.m.goroutines.length):
  zlO p x k=true∧zlP p x k=(⟨zaR p k 2000 x.m,x.events,x.gs⟩,()):=by
 have hl:=zwB (b:=x) hp hPN h64 hN h hk;rw [zsr,zsq];unfold zqd zqe;simp only [hl.1,hl.2];exact ⟨by trivial,by trivial⟩
theorem zqt {N P:Nat} {p:Prg} {m:Mac} {k:Nat} (hp:POk P p) (hPN:P≤N) (h64:64≤P) (hN:N+2000<BIG) (h:MOk N p m) (hk:k<m.goroutines.length):
  zcx p m k=true∧zaA p m k=(zaR p k 2000 m,()):=by
 have hc:=zwQ (p:=p) (z3 h.sz (show N≤BIG by omega))
 have hl:=zBV (x:=⟨m,[],[]⟩) hp hPN h64 hN h hk;rw [zjp,zjo];unfold zgS zgT;simp only [hc.1,hc.2,hl.1,hl.2,Bool.and_self];exact ⟨by trivial,by trivial⟩
end Go.Proofs.YtiepllpgifnloaaGreat.Px
