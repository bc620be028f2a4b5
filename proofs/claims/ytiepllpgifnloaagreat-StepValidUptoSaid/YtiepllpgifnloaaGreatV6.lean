/- The calls of the run of awake, as literals. -/
import Derived.Test.YtiepllpgifnloaaGreatV4
import Derived.Test.YtiepllpgifnloaaGreatV5
import Derived.Test.YtiepllpgifnloaaGreatProg
set_option linter.unusedSimpArgs false
set_option linter.unusedVariables false
namespace Go.Proofs.YtiepllpgifnloaaGreat.Px
open Go Go.Proofs.YtiepllpgifnloaaGreat.Vx Go.Proofs
set_option maxRecDepth 100000
def awakeOwn : List Nat := [61, 62, 63, 64, 65, 124, 125, 126, 127, 130, 131, 132, 134, 190, 193, 194, 195, 196, 197, 198, 200, 210, 211, 212, 213, 214, 215, 216, 218, 219, 222, 258, 259, 260, 262, 263, 264, 268, 277, 278, 279, 296, 298, 299, 301, 302, 303]
noncomputable def callK (t : T Ctr) : CallT := @callX Tryz.prog plainF t (fun i => mem i awakeOwn) 100 50
noncomputable def oneK (t : T Ctr) (f : FuncId) (a : List AV) (h : T Bk) (n : Nat) : VT (AV × St) := @call1 Tryz.prog plainF (fun i => mem i awakeOwn) 100 (callK t) f a ⟨h, n, fun _ => true⟩
noncomputable def runsK (t : T Ctr) (m : Memo) : Bool := @Memo.runs Tryz.prog plainF (fun i => mem i awakeOwn) 100 (callK t) m
def a0 : AV := (.lit (.int .u8 (.ofNat 0)))
def a1 : Option Bk := (.some ⟨85, [(.lit (.int .u8 (.ofNat 12))), a0, a0], .none⟩)
def a2 : Option Bk := (.some ⟨86, [(.sl 1 0 1 1 .false), (.sl 2 0 1 1 .false)], .none⟩)
def a3 : Option Bk := (.some ⟨85, [(.lit (.int .u8 (.ofNat 13))), a0, a0], .none⟩)
def a4 : AV := (.lit (.slice .none 0 0))
def a5 : AV := (.lit (.int .i64 (.ofNat 0)))
def a6 : List AV := [(.sl 4 0 2 0 .true), (.sl 7 0 9 0 .true), a4, a5]
def a7 : AV := (.agg a6)
def a8 : AV := (.lit (.bool .true))
def a9 : Option Bk := (.some ⟨96, [(.lit (.string (bs [118, 48]))), a5, (.lit (.string (bs [118, 49]))), a5, (.lit (.string (bs [118, 50]))), a5, (.lit (.string (bs [109, 48]))), a5, (.lit (.string (bs [109, 49]))), a5, (.lit (.string (bs [97, 48]))), a5, (.lit (.string (bs [97, 49]))), a5, (.lit (.string (bs [103]))), a5, (.lit (.string (bs [111]))), a5], (.some 2)⟩)
def a10 : AV := (.lit (.int .i64 (.ofNat 1)))
def a11 : AV := (.lit (.int .i64 (.ofNat 3)))
def a12 : AV := (.lit (.int .i64 (.ofNat 23)))
def a13 : AV := (.lit (.int .i64 (.ofNat 18)))
def a14 : AV := (.lit (.int .i64 (.ofNat 2)))
def a15 : AV := (.lit (.int .i64 (.ofNat 7)))
def a16 : AV := (.lit (.int .i64 (.ofNat 43)))
def a17 : AV := (.lit (.int .i64 (.ofNat 31)))
def a18 : AV := (.lit (.int .i64 (.ofNat 30)))
def a19 : AV := (.lit (.int .i64 (.negSucc 0)))
def a20 : Option Bk := (.some ⟨89, [a10, a11, a5, a5, a5, a12, a5, a11, a5, a5, a10, a11, a10, a5, a5, a12, a10, a11, a5, a5, a13, a14, a15, a5, a5, a10, a11, a10, a5, a5, a16, a14, a11, a5, a5, a17, a5, a10, a5, a5, a10, a11, a10, a5, a5, (.lit (.int .i64 (.ofNat 47))), a5, a11, a5, a5, a18, a19, a5, a5, a5], (.some 5)⟩)
def a21 : T Bk := (.n a1 (.n a2 (.n a9 .e .e) .e) (.n a20 .e .e))
def a22 : AV := (.lit (.int .i64 (.ofNat 5)))
def a23 : Option Bk := (.some ⟨100, [(.lit (.string (bs [109, 97, 105, 110]))), a5, a22, (.sl 5 0 11 0 .true), (.lit (.string (bs [116, 49]))), a14, a22, (.sl 6 0 2 0 .true)], (.some 4)⟩)
def a24 : AV := (.lit (.int .i64 (.ofNat 48)))
def a25 : AV := (.lit (.int .i64 (.ofNat 4)))
def a26 : Option Bk := (.some ⟨89, [a24, a11, a5, a25, a5, a18, a19, a5, a5, a5], (.some 5)⟩)
def a27 : List AV := [(.sl 108 0 3 0 .true), (.sl 121 0 1 0 .true), (.sl 123 0 2 0 .true), (.sl 128 0 0 0 .false)]
def a28 : Option Bk := (.some ⟨68, [], .none⟩)
def a29 : Option Bk := (.some ⟨27, [a5, a5], .none⟩)
def a30 : Option Bk := (.some ⟨68, [a5, a5, a5, a5, a5, a5, a5, a5, a5, a5, a5, a5, a5, a5, a5, a5, a5, a5, a5, a5, a5, a5, a5, a5, a5, a5, a5], (.some 3)⟩)
def a31 : AV := (.lit (.int .i64 (.ofNat 9)))
def a32 : Option Bk := (.some ⟨68, [a14, a10, a5, a14, a31, a5, a5, a5, a5, a5, a5, a5, a5, a5, a5], (.some 3)⟩)
def a33 : T Bk := (.n a32 .e .e)
def a34 : Option Bk := (.some ⟨3, [], .none⟩)
def a35 : T Bk := (.n a34 .e .e)
def a36 : T Bk := (.n a29 (.n a30 a33 .e) a35)
def a37 : Option Bk := (.some ⟨63, [a5, a5, a14, (.sl 48 0 1 0 .true)], (.some 4)⟩)
def a38 : Option Bk := (.some ⟨68, [a14, a10, a5, a14, a31, a5, a14, a5, a15, a5, a10, a5, a5, a5, a5], (.some 3)⟩)
def a39 : T Bk := (.n a38 .e .e)
def a40 : Option Bk := (.some ⟨156, [], .none⟩)
def a41 : T Bk := (.n a40 .e .e)
def a42 : AV := (.lit (.int .i64 (.ofNat 6)))
def a43 : AV := (.lit (.bool .false))
def a44 : Option Bk := (.some ⟨134, [a5, a42, (.sl 24 0 5 0 .true), a19, a4, a43, a5, a5, a5], (.some 9)⟩)
def a45 : T Bk := (.n a28 .e .e)
def a46 : T Bk := (.n (.some ⟨3, [a5, a10], .none⟩) .e .e)
def a47 : T Bk := (.n a40 a45 a46)
def a48 : T Bk := (.n (.some ⟨134, [a10, a5, (.sl 100 0 5 0 .true), a19, a4, a43, a5, a5, a5], (.some 9)⟩) .e .e)
def a49 : T Bk := (.n a40 a45 a48)
def a50 : Option Bk := (.some ⟨3, [a5], .none⟩)
def a51 : Option Bk := (.some ⟨32, a6, .none⟩)
def a52 : AV := (.sl 76 0 0 0 .false)
def a53 : Option Bk := (.some ⟨111, [a5, a15, a11, a19, a52, a10], (.some 6)⟩)
def a54 : Option Bk := (.some ⟨38, [a4, a4, a4, a4], .none⟩)
def a55 : T Bk := (.n a54 .e .e)
def a56 : T Bk := (.n a54 a45 (.n (.some ⟨63, [a5, a5, a14, (.sl 124 0 1 0 .true), a5, a5, a5, (.sl 126 0 1 0 .true)], (.some 4)⟩) .e .e))
def a57 : Option Bk := (.some ⟨80, [a5, (.sl 10 0 9 0 .true), a43, a5, (.sl 11 0 0 0 .false), a43, a5, a5, (.sl 12 0 0 0 .false), (.sl 13 0 0 0 .false), a10, (.sl 14 0 0 0 .false), a8, a5, (.sl 15 0 0 0 .false), a43, a5, a5, (.sl 16 0 0 0 .false), (.sl 17 0 0 0 .false), a31, (.sl 18 0 0 0 .false), a8, a10, (.sl 19 0 0 0 .false), a43, a5, a5, (.sl 20 0 0 0 .false), (.sl 21 0 0 0 .false)], (.some 10)⟩)
def a58 : AV := (.lit (.int .i64 (.ofNat 8)))
def a59 : T Bk := (.n (.some ⟨134, [a5, a58, (.sl 98 0 5 0 .true), a19, a4, a43, a5, a5, a5], (.some 9)⟩) .e .e)
def a60 : T Bk := (.n a30 (.n a40 (.n (.some ⟨89, [a10, a11, a10, a5, a5], .none⟩) .e .e) .e) a59)
def a61 : AV := (.sl 84 0 0 0 .false)
def a62 : AV := (.sl 90 0 0 0 .false)
def a63 : Option Bk := (.some ⟨80, [a5, (.sl 82 0 9 0 .true), a43, a5, (.sl 83 0 0 0 .false), a43, a5, a5, a61, (.sl 85 0 0 0 .false), a10, (.sl 86 0 0 0 .false), a8, a5, (.sl 87 0 0 0 .false), a43, a5, a5, (.sl 88 0 0 0 .false), (.sl 89 0 0 0 .false), a31, a62, a8, a10, (.sl 91 0 0 0 .false), a43, a5, a5, (.sl 92 0 0 0 .false), (.sl 93 0 0 0 .false)], (.some 10)⟩)
def a64 : T Bk := (.n a51 .e .e)
def a65 : List AV := [(.sl 32 0 3 0 .true), (.sl 45 0 1 0 .true), (.sl 47 0 1 0 .true), (.sl 50 0 0 0 .false)]
def a66 : Option Bk := (.some ⟨38, a65, .none⟩)
def a67 : T Bk := (.n a66 a41 (.n (.some ⟨111, [a5, a15, a11, a19, (.sl 122 0 0 0 .false), a10], (.some 6)⟩) .e .e))
def a68 : T Bk := (.n a28 a41 a35)
def a69 : Option Bk := (.some ⟨27, [a5, a5], (.some 2)⟩)
def a70 : Option Bk := (.some ⟨111, [a5, a15, a11, a19, (.sl 46 0 0 0 .false), a10], (.some 6)⟩)
def a71 : List AV := [a5, a5, a14, (.sl 78 0 1 0 .true)]
def a72 : Option Bk := (.some ⟨63, a71, (.some 4)⟩)
def a73 : T Bk := (.n a30 .e .e)
def a74 : Option Bk := (.some ⟨89, [a17, a5, a10, a5, a5], .none⟩)
def a75 : AV := (.sl 41 0 0 0 .false)
def a76 : Option Bk := (.some ⟨80, [a5, (.sl 33 0 9 0 .true), a43, a5, (.sl 34 0 0 0 .false), a43, a5, a5, (.sl 35 0 0 0 .false), (.sl 36 0 0 0 .false), a10, (.sl 37 0 0 0 .false), a8, a5, (.sl 38 0 0 0 .false), a43, a5, a5, (.sl 39 0 0 0 .false), (.sl 40 0 0 0 .false), a31, a75, a8, a10, (.sl 42 0 0 0 .false), a43, a5, a5, (.sl 43 0 0 0 .false), (.sl 44 0 0 0 .false)], (.some 10)⟩)
def a77 : T Bk := (.n a28 a35 .e)
def a78 : T Bk := (.n (.some ⟨63, [a5, a5, a14, (.sl 97 0 1 0 .true), a5, a5, a5, (.sl 99 0 1 0 .true)], (.some 4)⟩) .e .e)
def a79 : Option Bk := (.some ⟨134, [a5, a15, (.sl 49 0 5 0 .true), a19, a4, a43, a5, a5, a5], (.some 9)⟩)
def a80 : List AV := [(.sl 81 0 3 0 .true), (.sl 94 0 1 0 .true), (.sl 96 0 2 0 .true), (.sl 101 0 0 0 .false)]
def a81 : T Bk := (.n (.some ⟨38, a80, .none⟩) .e .e)
def a82 : T Bk := (.n a40 a45 a81)
def a83 : T Bk := (.n a40 (.n a40 a45 a33) (.n a29 a41 a41))
def a84 : T Bk := (.n (.some ⟨80, [a5, (.sl 109 0 9 0 .true), a43, a5, (.sl 110 0 0 0 .false), a43, a5, a5, (.sl 111 0 0 0 .false), (.sl 112 0 0 0 .false), a10, (.sl 113 0 0 0 .false), a8, a5, (.sl 114 0 0 0 .false), a43, a5, a5, (.sl 115 0 0 0 .false), (.sl 116 0 0 0 .false), a31, (.sl 117 0 0 0 .false), a8, a10, (.sl 118 0 0 0 .false), a43, a5, a5, (.sl 119 0 0 0 .false), (.sl 120 0 0 0 .false)], (.some 10)⟩) .e .e)
def a85 : T Bk := (.n a50 a41 (.n (.some ⟨134, [a5, a58, (.sl 125 0 5 0 .true), a19, a4, a43, a5, a5, a5], (.some 9)⟩) .e .e))
def a86 : T Bk := (.n a28 (.n a28 a41 a39) (.n a34 a73 a45))
def a87 : Option Bk := (.some ⟨5, [a0, a0], .none⟩)
def a88 : T Bk := (.n (.some ⟨38, a27, .none⟩) .e .e)
def a89 : T Bk := (.n a29 a45 a35)
def a90 : Option Bk := (.some ⟨63, [a5, a5, a14, (.sl 23 0 1 0 .true)], (.some 4)⟩)
def a91 : T Bk := (.n (.some ⟨65, [a5, (.lit (.int .i64 (.ofNat 14))), a5, a5, a10, a5, a5, a15, a5], .none⟩) .e .e)
def a92 : T Bk := (.n a28 a41 a91)
def a93 : Option Bk := (.some ⟨134, [a5, a15, (.sl 79 0 5 0 .true), a19, a4, a43, a5, a5, a5], (.some 9)⟩)
def a94 : T Bk := (.n a34 (.n a93 .e .e) a45)
def a95 : AV := (.sl 64 0 0 0 .false)
def a96 : AV := (.sl 65 0 0 0 .false)
def a97 : AV := (.sl 66 0 0 0 .false)
def a98 : AV := (.sl 67 0 0 0 .false)
def a99 : AV := (.sl 70 0 0 0 .false)
def a100 : Option Bk := (.some ⟨80, [a5, (.sl 63 0 9 0 .true), a43, a5, a95, a43, a5, a5, a96, a97, a10, a98, a8, a5, (.sl 68 0 0 0 .false), a43, a5, a5, (.sl 69 0 0 0 .false), a99, a31, (.sl 71 0 0 0 .false), a8, a10, (.sl 72 0 0 0 .false), a43, a5, a5, (.sl 73 0 0 0 .false), (.sl 74 0 0 0 .false)], (.some 10)⟩)
def a101 : T Bk := (.n (.some ⟨111, [a5, a15, a11, a19, (.sl 95 0 0 0 .false), a10], (.some 6)⟩) .e .e)
def a102 : T Bk := (.n a100 a101 (.n (.some ⟨134, [a10, a5, (.sl 127 0 5 0 .true), a19, a4, a43, a5, a5, a5], (.some 9)⟩) .e .e))
def a103 : T Bk := (.n a28 a45 .e)
def a104 : T Bk := (.n a28 a39 .e)
def a105 : T Bk := (.n a40 a41 .e)
def a106 : T Bk := (.n a34 a45 .e)
def a107 : T Bk := (.n a40 (.n a53 .e .e) .e)
def a108 : T Bk := (.n a28 a41 .e)
def a109 : T Bk := (.n a70 (.n a72 .e .e) .e)
def a110 : T Bk := (.n a1 (.n a2 (.n a9 (.n a28 (.n a29 a73 a35) (.n a37 a39 .e)) (.n a44 a47 (.n a29 a45 .e))) (.n a28 (.n a28 a49 (.n a50 a45 .e)) (.n a51 a107 (.n a54 a45 .e)))) (.n a20 (.n a57 (.n a40 (.n a30 a41 a59) (.n a38 (.n a63 .e .e) .e)) (.n a34 a108 (.n a66 a41 .e))) (.n a40 (.n a40 a68 (.n a69 a41 .e)) (.n a54 a109 (.n a74 a41 .e)))))
def a111 : T Bk := (.n a40 (.n a76 a45 a78) (.n a79 a35 .e))
def a112 : T Bk := (.n a29 a41 .e)
def a113 : T Bk := (.n a40 a35 .e)
def a114 : T Bk := (.n a40 (.n a40 (.n a40 a45 a33) a112) (.n a66 a113 (.n a50 a41 .e)))
def a115 : T Bk := (.n a34 (.n a93 .e .e) .e)
def a116 : T Bk := (.n a26 (.n a30 (.n a28 (.n a28 a41 a39) (.n a34 a73 .e)) (.n a87 a108 (.n a29 a45 .e))) (.n a28 (.n a90 a92 (.n a69 a45 .e)) (.n a69 a115 (.n a100 a101 .e))))
def a117 : List AV := [(.sl 105 0 3 0 .true), (.sl 118 0 1 0 .true), (.sl 120 0 2 0 .true), (.sl 125 0 0 0 .false)]
def a118 : T Bk := (.n a54 a45 (.n (.some ⟨134, [a10, a5, (.sl 124 0 5 0 .true), a19, a4, a43, a5, a5, a5], (.some 9)⟩) .e .e))
def a119 : T Bk := (.n (.some ⟨80, [a5, (.sl 106 0 9 0 .true), a43, a5, (.sl 107 0 0 0 .false), a43, a5, a5, (.sl 108 0 0 0 .false), (.sl 109 0 0 0 .false), a10, (.sl 110 0 0 0 .false), a8, a5, (.sl 111 0 0 0 .false), a43, a5, a5, (.sl 112 0 0 0 .false), (.sl 113 0 0 0 .false), a31, (.sl 114 0 0 0 .false), a8, a10, (.sl 115 0 0 0 .false), a43, a5, a5, (.sl 116 0 0 0 .false), (.sl 117 0 0 0 .false)], (.some 10)⟩) .e .e)
def a120 : T Bk := (.n a66 a41 (.n (.some ⟨134, [a5, a31, (.sl 122 0 5 0 .true), a19, a4, a43, a5, a5, a5], (.some 9)⟩) .e .e))
def a121 : T Bk := (.n a69 a41 a41)
def a122 : T Bk := (.n a1 (.n a2 (.n a9 (.n a28 (.n a29 a73 a35) (.n a37 a39 a45)) (.n a44 a47 a89)) (.n a28 (.n a28 a49 (.n a50 a45 a45)) (.n a51 (.n a40 (.n a53 .e .e) a45) a118))) (.n a20 (.n a57 (.n a40 (.n a30 a41 a59) (.n a38 (.n a63 .e .e) a41)) (.n a34 (.n a28 a41 a119) a120)) (.n a40 (.n a40 a68 a121) (.n a54 (.n a70 (.n a72 .e .e) a41) (.n a74 a41 a35)))))
def a123 : T Bk := (.n a40 (.n a76 a45 a78) (.n a79 a35 a41))
def a124 : T Bk := (.n a51 a41 (.n (.some ⟨63, [a5, a5, a14, (.sl 121 0 1 0 .true), a5, a5, a5, (.sl 123 0 1 0 .true)], (.some 4)⟩) .e .e))
def a125 : T Bk := (.n a40 a83 (.n a66 (.n a40 a35 a41) (.n a50 a41 a33)))
def a126 : T Bk := (.n a69 a45 (.n (.some ⟨111, [a5, a15, a11, a19, (.sl 119 0 0 0 .false), a10], (.some 6)⟩) .e .e))
def a127 : T Bk := (.n a26 (.n a30 a86 (.n a87 (.n a28 a41 a73) (.n a29 a45 a39))) (.n a28 (.n a90 a92 a126) (.n a69 a94 (.n a100 a101 .e))))
def a128 : T Bk := (.n (.some ⟨38, a117, .none⟩) .e .e)
def a129 : T Bk := (.n a29 .e .e)
def a130 : T Bk := (.n a28 a129 (.n a37 .e .e))
def a131 : T Bk := (.n a50 .e .e)
def a132 : T Bk := (.n a28 (.n a28 a41 a131) (.n a51 a41 .e))
def a133 : T Bk := (.n a57 (.n a40 a73 a39) a106)
def a134 : T Bk := (.n a69 .e .e)
def a135 : T Bk := (.n a20 a133 (.n a40 (.n a40 a45 a134) (.n a54 (.n a70 .e .e) .e)))
def a136 : T Bk := (.n a51 (.n a40 (.n a76 .e .e) (.n a79 .e .e)) (.n a38 a41 .e))
def a137 : T Bk := (.n a23 a136 (.n a40 (.n a40 a41 a129) (.n a66 a41 .e)))
def a138 : T Bk := (.n a30 (.n a28 a45 a35) (.n a87 a45 .e))
def a139 : T Bk := (.n a3 a137 (.n a26 a138 (.n a28 (.n a90 a45 a134) (.n a69 a35 .e))))
def a140 : AV := (.sl 58 0 0 0 .false)
def a141 : AV := (.sl 59 0 0 0 .false)
def a142 : AV := (.sl 60 0 0 0 .false)
def a143 : AV := (.sl 61 0 0 0 .false)
def a144 : AV := (.sl 62 0 0 0 .false)
def a145 : List AV := [(.sl 27 0 3 0 .true), (.sl 40 0 1 0 .true), (.sl 42 0 2 0 .true), (.sl 47 0 0 0 .false)]
def a146 : Option Bk := (.some ⟨80, [a5, (.sl 28 0 9 0 .true), a43, a5, (.sl 29 0 0 0 .false), a43, a5, a5, (.sl 30 0 0 0 .false), (.sl 31 0 0 0 .false), a10, (.sl 32 0 0 0 .false), a8, a5, (.sl 33 0 0 0 .false), a43, a5, a5, (.sl 34 0 0 0 .false), (.sl 35 0 0 0 .false), a31, (.sl 36 0 0 0 .false), a8, a10, (.sl 37 0 0 0 .false), a43, a5, a5, (.sl 38 0 0 0 .false), (.sl 39 0 0 0 .false)], (.some 10)⟩)
def a147 : Option Bk := (.some ⟨134, [a5, a31, (.sl 44 0 5 0 .true), a19, a4, a43, a5, a5, a5], (.some 9)⟩)
def a148 : T Bk := (.n (.some ⟨38, a145, .none⟩) .e .e)
def a149 : T Bk := (.n a40 a45 .e)
def a150 : Option Bk := (.some ⟨134, [a10, a5, (.sl 46 0 5 0 .true), a19, a4, a43, a5, a5, a5], (.some 9)⟩)
def a151 : Option Bk := (.some ⟨27, [a5, a5, a5, a5], (.some 2)⟩)
def a152 : Option Bk := (.some ⟨111, [a5, a15, a11, a19, a75, a10], (.some 6)⟩)
def a153 : Option Bk := (.some ⟨63, [a5, a5, a14, (.sl 43 0 1 0 .true), a5, a5, a5, (.sl 45 0 1 0 .true)], (.some 4)⟩)
def a154 : List AV := [(.sl 50 0 3 0 .true), (.sl 63 0 1 0 .true), (.sl 65 0 2 0 .true), a99]
def a155 : AV := (.agg a154)
def a156 : T Bk := (.n a40 (.n (.some ⟨111, [a5, a15, a11, a19, a95, a10], (.some 6)⟩) .e .e) .e)
def a157 : T Bk := (.n a40 a131 .e)
def a158 : T Bk := (.n a2 (.n a9 (.n a28 a156 a35) (.n a44 a157 a45)) (.n a28 (.n a28 (.n a40 a39 .e) a73) (.n a146 (.n a147 .e .e) a45)))
def a159 : T Bk := (.n a28 (.n (.some ⟨63, [a10, a5, a14, (.sl 66 0 1 0 .true), a5, a5, a5, (.sl 68 0 1 0 .true)], (.some 4)⟩) .e .e) .e)
def a160 : Option Bk := (.some ⟨156, [a5, a19, a5, a10, a5], (.some 5)⟩)
def a161 : T Bk := (.n a40 (.n a40 (.n a28 a33 .e) a41) (.n a28 (.n a150 .e .e) a41))
def a162 : T Bk := (.n a1 a158 (.n a20 (.n a57 (.n a40 a159 a148) (.n a34 a35 (.n a160 .e .e))) a161))
def a163 : T Bk := (.n a40 a77 (.n a151 .e .e))
def a164 : T Bk := (.n a28 (.n (.some ⟨134, [a10, a5, (.sl 69 0 5 0 .true), a19, a4, a43, a5, a5, a5], (.some 9)⟩) .e .e) .e)
def a165 : T Bk := (.n a40 (.n a40 a164 a45) (.n a30 a39 a45))
def a166 : T Bk := (.n a40 (.n (.some ⟨134, [a5, a31, (.sl 67 0 5 0 .true), a19, a4, a43, a5, a5, a5], (.some 9)⟩) .e .e) .e)
def a167 : Option Bk := (.some ⟨80, [a5, (.sl 51 0 9 0 .true), a43, a5, (.sl 52 0 0 0 .false), a43, a5, a5, (.sl 53 0 0 0 .false), (.sl 54 0 0 0 .false), a10, (.sl 55 0 0 0 .false), a8, a5, (.sl 56 0 0 0 .false), a43, a5, a5, (.sl 57 0 1 0 .true), a140, a31, a141, a8, a10, a142, a43, a5, a5, a143, a144], (.some 10)⟩)
def a168 : T Bk := (.n a26 (.n a30 (.n a28 a166 (.n a167 .e .e)) (.n a87 (.n a153 .e .e) a41)) (.n a28 (.n a90 a113 a41) (.n a40 a33 a41)))
def a169 : T Bk := (.n a152 (.n (.some ⟨38, a154, .none⟩) .e .e) .e)
def a170 : T Bk := (.n a3 (.n a23 (.n a51 a163 (.n a38 a169 a45)) a165) a168)
def a171 : T Bk := (.n .none a162 a170)
def a172 : T Bk := (.n a34 (.n (.some ⟨89, [a24, a11, a5, a25, a5], .none⟩) .e .e) .e)
def a173 : AV := (.sl 80 0 0 0 .false)
def a174 : List AV := [(.sl 9 0 3 0 .true), a4, (.sl 22 0 1 0 .true), (.sl 25 0 0 0 .false)]
def a175 : T Bk := (.n a20 (.n a57 a41 a35) (.n a40 a41 a55))
def a176 : T Bk := (.n a1 (.n a2 (.n a9 a45 (.n a44 .e .e)) (.n a28 a45 a64)) a175)
def a177 : Option Bk := (.some ⟨38, a174, .none⟩)
def a178 : T Bk := (.n a23 (.n a51 a41 a39) (.n a40 a41 (.n a177 .e .e)))
def a179 : T Bk := (.n a30 a45 (.n a87 .e .e))
def a180 : T Bk := (.n a3 a178 (.n a26 a179 (.n a28 (.n a90 .e .e) a134)))
def a181 : Option Bk := (.some ⟨63, [a5, a5, a14, (.sl 52 0 1 0 .true)], (.some 4)⟩)
def a182 : Option Bk := (.some ⟨89, [a16, a14, a11, a5, a5], .none⟩)
def a183 : Option Bk := (.some ⟨134, [a5, a42, (.sl 53 0 5 0 .true), a19, a4, a43, a5, a5, a5], (.some 9)⟩)
def a184 : T Bk := (.n a177 a45 .e)
def a185 : Option Bk := (.some ⟨80, [a5, (.sl 39 0 9 0 .true), a43, a5, (.sl 40 0 0 0 .false), a43, a5, a5, a75, (.sl 42 0 0 0 .false), a10, (.sl 43 0 0 0 .false), a8, a5, (.sl 44 0 0 0 .false), a43, a5, a5, (.sl 45 0 0 0 .false), (.sl 46 0 0 0 .false), a31, (.sl 47 0 0 0 .false), a8, a10, (.sl 48 0 0 0 .false), a43, a5, a5, (.sl 49 0 0 0 .false), (.sl 50 0 0 0 .false)], (.some 10)⟩)
def a186 : List AV := [(.sl 55 0 3 0 .true), (.sl 68 0 1 0 .true), (.sl 70 0 1 0 .true), (.sl 73 0 0 0 .false)]
def a187 : T Bk := (.n a30 (.n (.some ⟨134, [a5, a15, (.sl 72 0 5 0 .true), a19, a4, a43, a5, a5, a5], (.some 9)⟩) .e .e) .e)
def a188 : Option Bk := (.some ⟨80, [a5, (.sl 56 0 9 0 .true), a43, a5, (.sl 57 0 0 0 .false), a43, a5, a5, a140, a141, a10, a142, a8, a5, a143, a43, a5, a5, a144, (.sl 63 0 0 0 .false), a31, a95, a8, a10, a96, a43, a5, a5, a97, a98], (.some 10)⟩)
def a189 : T Bk := (.n a9 (.n a28 a112 a45) (.n a44 a187 (.n a188 .e .e)))
def a190 : T Bk := (.n a28 (.n a54 a41 .e) (.n a181 .e .e))
def a191 : T Bk := (.n a20 (.n a57 (.n a40 a184 a41) (.n a34 a113 a45)) (.n a40 (.n a40 (.n a182 a35 .e) a39) (.n a54 a41 a45)))
def a192 : T Bk := (.n a50 (.n (.some ⟨111, [a5, a15, a11, a19, (.sl 69 0 0 0 .false), a10], (.some 6)⟩) .e .e) .e)
def a193 : T Bk := (.n a185 (.n (.some ⟨63, [a5, a5, a14, (.sl 71 0 1 0 .true)], (.some 4)⟩) .e .e) .e)
def a194 : T Bk := (.n a3 (.n a23 (.n a51 (.n a40 (.n a51 a45 .e) a45) (.n a38 a104 a73)) (.n a40 (.n a40 a192 (.n a183 .e .e)) (.n a177 a45 a45))) (.n a26 (.n a30 (.n a28 a112 a41) (.n a87 a157 a41)) (.n a28 (.n a90 a193 a35) a121)))
def a195 : T Bk := (.n a28 (.n (.some ⟨38, a186, .none⟩) .e .e) .e)
def a196 : T Bk := (.n a2 (.n a9 a130 (.n a44 a41 .e)) a132)
def a197 : T Bk := (.n a26 a138 (.n a28 (.n a90 a45 .e) (.n a69 a35 .e)))
def a198 : T Bk := (.n a28 (.n a29 a73 .e) (.n a37 a39 .e))
def a199 : T Bk := (.n a44 a149 (.n a29 (.n (.some ⟨68, [a14, a31, a5], .none⟩) .e .e) .e))
def a200 : T Bk := (.n a28 (.n a28 a149 (.n a50 (.n a74 .e .e) .e)) (.n a51 a107 (.n a54 a55 .e)))
def a201 : List AV := [(.sl 62 0 3 0 .true), (.sl 75 0 1 0 .true), (.sl 77 0 1 0 .true), a173]
def a202 : T Bk := (.n (.some ⟨38, a201, .none⟩) .e .e)
def a203 : T Bk := (.n (.some ⟨63, a71, .none⟩) .e .e)
def a204 : T Bk := (.n a20 (.n a57 (.n a40 (.n a30 a41 .e) (.n a38 a64 .e)) (.n a34 a108 (.n a66 a202 .e))) (.n a40 (.n a40 a108 (.n a69 a203 .e)) (.n a54 a109 (.n a74 a45 .e))))
def a205 : T Bk := (.n a40 (.n a76 a45 .e) (.n a79 a35 .e))
def a206 : T Bk := (.n a38 a149 (.n a51 a64 .e))
def a207 : T Bk := (.n a40 (.n a40 a149 (.n a29 a55 .e)) (.n a66 a113 (.n a50 a203 .e)))
def a208 : T Bk := (.n a26 (.n a30 (.n a28 a108 (.n a34 a202 .e)) (.n a87 a108 (.n a29 (.n a74 .e .e) .e))) (.n a28 (.n a90 a108 (.n a69 (.n (.some ⟨68, [a14, a10, a5], .none⟩) .e .e) .e)) (.n a69 a115 (.n a100 (.n (.some ⟨68, [a14, a10, a5, a14, a31, a5], (.some 3)⟩) .e .e) .e))))
def k1 : Memo := ⟨14, [(.sl 3 0 2 2 .false)], (.n .none (.n a1 (.n a2 .e .e) .e) (.n a3 .e .e)), 4, (.tup [a7, a8]), (.n .none a21 (.n a3 (.n a23 .e .e) (.n a26 .e .e))), 8⟩
def k10 : Memo := ⟨76, [a7, (.agg a27), a5, (.agg [a10, a11, a10, a5, a5])], (.n .none (.n a1 (.n a2 (.n a9 (.n a28 a36 (.n a37 a39 a41)) (.n a44 a47 (.n a29 a45 a41))) (.n a28 (.n a28 a49 (.n a50 a45 a41)) (.n a51 (.n a40 (.n a53 .e .e) a55) a56))) (.n a20 (.n a57 (.n a40 a60 (.n a38 (.n a63 .e .e) a45)) (.n a34 (.n a28 a41 a64) a67)) (.n a40 (.n a40 a68 (.n a69 a41 a45)) (.n a54 (.n a70 (.n a72 .e .e) a73) (.n a74 a41 a39))))) (.n a3 (.n a23 (.n a51 (.n a40 (.n a76 a77 a78) (.n a79 a35 a41)) (.n a38 a82 (.n a51 a41 a41))) (.n a40 a83 (.n a66 (.n a40 a35 a84) a85))) (.n a26 (.n a30 a86 (.n a87 (.n a28 a41 a88) a89)) (.n a28 (.n a90 a92 (.n a69 a45 a45)) (.n a69 a94 a102))))), 130, (.agg [(.sl 130 0 3 0 .true), (.sl 143 0 1 0 .true), (.sl 145 0 2 0 .true), (.sl 150 0 0 0 .false)]), (.n .none (.n a1 (.n a2 (.n a9 (.n a28 a36 (.n a37 (.n a38 (.n (.some ⟨111, [a5, a15, a11, a19, (.sl 144 0 0 0 .false), a10], (.some 6)⟩) .e .e) .e) a41)) (.n a44 (.n a40 a103 a46) (.n a29 a45 a41))) (.n a28 (.n a28 (.n a40 (.n a28 a73 .e) a48) (.n a50 a104 a41)) (.n a51 (.n a40 (.n a53 a45 .e) a55) a56))) (.n a20 (.n a57 (.n a40 a60 (.n a38 (.n a63 (.n (.some ⟨63, [a5, a5, a14, (.sl 146 0 1 0 .true), a5, a5, a5, (.sl 148 0 1 0 .true)], (.some 4)⟩) .e .e) .e) a45)) (.n a34 (.n a28 a105 a64) a67)) (.n a40 (.n a40 (.n a28 a105 a35) (.n a69 (.n a40 a33 .e) a45)) (.n a54 (.n a70 (.n a72 a41 .e) a73) (.n a74 a41 a39))))) (.n a3 (.n a23 (.n a51 (.n a40 (.n a76 a77 a78) (.n a79 (.n a34 a35 .e) a41)) (.n a38 (.n a40 a103 a81) (.n a51 a41 a41))) (.n a40 (.n a40 (.n a40 a103 a33) (.n a29 (.n a40 (.n (.some ⟨134, [a10, a5, (.sl 149 0 5 0 .true), a19, a4, a43, a5, a5, a5], (.some 9)⟩) .e .e) .e) a41)) (.n a66 (.n a40 a106 a84) a85))) (.n a26 (.n a30 (.n a28 (.n a28 (.n a40 (.n (.some ⟨80, [a5, (.sl 131 0 9 0 .true), a43, a5, (.sl 132 0 0 0 .false), a43, a5, a5, (.sl 133 0 0 0 .false), (.sl 134 0 0 0 .false), a10, (.sl 135 0 0 0 .false), a8, a5, (.sl 136 0 0 0 .false), a43, a5, a5, (.sl 137 0 0 0 .false), (.sl 138 0 0 0 .false), a31, (.sl 139 0 0 0 .false), a8, a10, (.sl 140 0 0 0 .false), a43, a5, a5, (.sl 141 0 0 0 .false), (.sl 142 0 0 0 .false)], (.some 10)⟩) .e .e) .e) a39) (.n a34 (.n a30 (.n (.some ⟨134, [a5, a31, (.sl 147 0 5 0 .true), a19, a4, a43, a5, a5, a5], (.some 9)⟩) .e .e) .e) a45)) (.n a87 (.n a28 a105 a88) a89)) (.n a28 (.n a90 (.n a28 a105 a91) (.n a69 a77 a45)) (.n a69 (.n a34 (.n a93 a41 .e) a45) a102))))), 151⟩
def k11 : Memo := ⟨32, [a7, (.agg a80), a5], (.n .none a110 (.n a3 (.n a23 (.n a51 a111 (.n a38 a82 (.n a51 a41 .e))) a114) a116)), 105, (.agg a117), (.n .none a122 (.n a3 (.n a23 (.n a51 a123 (.n a38 a82 a124)) a125) a127)), 126⟩
def k12 : Memo := ⟨32, [a7, (.agg a117), a10], (.n .none a122 (.n a3 (.n a23 (.n a51 a123 (.n a38 (.n a40 a45 a128) a124)) a125) a127)), 126, (.agg [(.sl 126 0 3 0 .true), (.sl 139 0 1 0 .true), (.sl 141 0 2 0 .true), (.sl 146 0 0 0 .false)]), (.n .none (.n a1 (.n a2 (.n a9 (.n a28 (.n a29 (.n a30 a73 .e) a35) (.n a37 (.n a38 a39 .e) a45)) (.n a44 (.n a40 a103 a46) a89)) (.n a28 (.n a28 (.n a40 a103 a48) (.n a50 a45 a45)) (.n a51 (.n a40 (.n a53 (.n (.some ⟨111, [a5, a15, a11, a19, (.sl 140 0 0 0 .false), a10], (.some 6)⟩) .e .e) .e) a45) a118))) (.n a20 (.n a57 (.n a40 (.n a30 a105 a59) (.n a38 (.n a63 a33 .e) a41)) (.n a34 (.n a28 a105 a119) a120)) (.n a40 (.n a40 (.n a28 a105 a35) a121) (.n a54 (.n a70 (.n a72 (.n (.some ⟨63, [a5, a5, a14, (.sl 142 0 1 0 .true), a5, a5, a5, (.sl 144 0 1 0 .true)], (.some 4)⟩) .e .e) .e) a41) (.n a74 a41 a35))))) (.n a3 (.n a23 (.n a51 (.n a40 (.n a76 a103 a78) (.n a79 (.n a34 (.n (.some ⟨134, [a10, a5, (.sl 145 0 5 0 .true), a19, a4, a43, a5, a5, a5], (.some 9)⟩) .e .e) .e) a41)) (.n a38 (.n a40 a103 a128) a124)) (.n a40 (.n a40 (.n a40 a103 a33) (.n a29 a41 a41)) (.n a66 (.n a40 (.n a34 a35 .e) a41) (.n a50 a41 a33)))) (.n a26 (.n a30 (.n a28 (.n a28 a105 a39) (.n a34 (.n a30 a35 .e) a45)) (.n a87 (.n a28 a105 a73) (.n a29 a45 a39))) (.n a28 (.n a90 (.n a28 a105 a91) a126) (.n a69 (.n a34 (.n a93 (.n (.some ⟨134, [a5, a31, (.sl 143 0 5 0 .true), a19, a4, a43, a5, a5, a5], (.some 9)⟩) .e .e) .e) a45) (.n a100 a101 (.n (.some ⟨80, [a5, (.sl 127 0 9 0 .true), a43, a5, (.sl 128 0 0 0 .false), a43, a5, a5, (.sl 129 0 0 0 .false), (.sl 130 0 0 0 .false), a10, (.sl 131 0 0 0 .false), a8, a5, (.sl 132 0 0 0 .false), a43, a5, a5, (.sl 133 0 0 0 .false), (.sl 134 0 0 0 .false), a31, (.sl 135 0 0 0 .false), a8, a10, (.sl 136 0 0 0 .false), a43, a5, a5, (.sl 137 0 0 0 .false), (.sl 138 0 0 0 .false)], (.some 10)⟩) .e .e))))))), 147⟩
def k13 : Memo := ⟨17, [a7, (.agg a65), (.agg [a5, a5])], (.n .none (.n a1 (.n a2 (.n a9 a130 (.n a44 a41 a129)) a132) a135) a139), 56, (.tup [(.agg [(.sl 56 0 3 0 .true), (.sl 69 0 1 0 .true), (.sl 71 0 2 0 .true), a52]), (.sl 77 0 1 1 .false), (.sl 78 0 2 2 .false), a5]), (.n .none (.n a1 (.n a2 (.n a9 (.n a28 a112 (.n a37 .e .e)) (.n a44 (.n a40 (.n (.some ⟨63, [a5, a5, a14, (.sl 72 0 1 0 .true), a5, a5, a5, (.sl 74 0 1 0 .true)], (.some 4)⟩) .e .e) .e) a129)) (.n a28 (.n a28 a105 a131) (.n a51 (.n a40 a33 .e) a41))) (.n a20 (.n a57 (.n a40 (.n a30 a45 .e) a39) (.n a34 a104 a73)) (.n a40 (.n a40 (.n a28 (.n (.some ⟨111, [a5, a15, a11, a19, a99, a10], (.some 6)⟩) .e .e) .e) a134) (.n a54 (.n a70 a91 .e) a45)))) (.n a3 (.n a23 (.n a51 (.n a40 (.n a76 a41 .e) (.n a79 .e .e)) (.n a38 (.n a40 (.n (.some ⟨134, [a5, a31, (.sl 73 0 5 0 .true), a19, a4, a43, a5, a5, a5], (.some 9)⟩) .e .e) .e) (.n (.some ⟨80, [a5, (.sl 57 0 9 0 .true), a43, a5, a140, a43, a5, a5, a141, a142, a10, a143, a8, a5, a144, a43, a5, a5, (.sl 63 0 0 0 .false), a95, a31, a96, a8, a10, a97, a43, a5, a5, a98, (.sl 68 0 0 0 .false)], (.some 10)⟩) .e .e))) (.n a40 (.n a40 a105 a129) (.n a66 a113 a41))) (.n a26 (.n a30 (.n a28 a103 a35) (.n a87 (.n a28 (.n (.some ⟨134, [a10, a5, (.sl 75 0 5 0 .true), a19, a4, a43, a5, a5, a5], (.some 9)⟩) .e .e) .e) a45)) (.n a28 (.n a90 a77 a134) (.n a69 (.n a34 a46 .e) a45))))), 79⟩
def k14 : Memo := ⟨21, [a7, (.agg a145), (.agg [a5, a5])], (.n .none (.n a1 (.n a2 (.n a9 a68 (.n a44 a41 .e)) (.n a28 a108 (.n a146 (.n a147 .e .e) .e))) (.n a20 (.n a57 (.n a40 a45 a148) (.n a34 a35 .e)) (.n a40 a149 (.n a28 (.n a150 .e .e) .e)))) (.n a3 (.n a23 (.n a51 (.n a40 a45 (.n a151 .e .e)) (.n a38 (.n a152 .e .e) .e)) (.n a40 a149 (.n a30 a39 .e))) (.n a26 (.n a30 a108 (.n a87 (.n a153 .e .e) .e)) (.n a28 (.n a90 a41 .e) (.n a40 a33 .e))))), 50, (.tup [a155, a4, (.sl 71 0 0 1 .false), a5]), (.n .none a162 (.n a3 (.n a23 (.n a51 a163 (.n a38 (.n a152 .e .e) a45)) a165) a168)), 72⟩
def k15 : Memo := ⟨33, [a7, a155, a5], a171, 73, a4, a171, 73⟩
def k16 : Memo := ⟨19, [a7, a155], a171, 73, a8, a171, 73⟩
def k17 : Memo := ⟨34, [a7, a155, a10], a171, 73, (.tup [(.agg [a24, a11, a5, a25, a5]), a8]), a171, 73⟩
def k18 : Memo := ⟨21, [a7, a155, (.agg [a10, a5])], (.n .none (.n a1 a158 (.n a20 (.n a57 (.n a40 a159 a148) (.n a34 a172 (.n a160 .e .e))) a161)) a170), 74, (.tup [(.agg [(.sl 74 0 3 0 .true), (.sl 83 0 1 0 .true), (.sl 85 0 2 0 .true), a62]), (.sl 91 0 4 0 .true), (.sl 92 0 2 0 .true), a5]), (.n .none (.n a1 (.n a2 (.n a9 (.n a28 a156 a106) (.n a44 a157 a104)) (.n a28 (.n a28 (.n a40 a39 .e) (.n a30 (.n (.some ⟨111, [a5, a15, a11, a19, a61, a10], (.some 6)⟩) .e .e) .e)) (.n a146 (.n a147 a73 .e) (.n a28 (.n (.some ⟨65, [a5, (.lit (.int .i64 (.ofNat 15))), a10, a5, a5, a5, a5, a31, a5, a10, (.lit (.int .i64 (.ofNat 17))), a10, a5, a5, a5, a10, a5, a5, a10, a13, a10, a5, a5, a5, a10, a5, a5, a5, (.lit (.int .i64 (.ofNat 16))), a10, a5, a5, a5, a5, a31, a5], (.some 9)⟩) .e .e) .e)))) (.n a20 (.n a57 (.n a40 a159 (.n (.some ⟨38, a145, .none⟩) a45 .e)) (.n a34 a172 (.n a160 (.n (.some ⟨68, [a14, a10, a5, a14, a31, a5, a5, a5, a5, a5, a10, a5, a5, a10, a5], (.some 3)⟩) .e .e) .e))) (.n a40 (.n a40 (.n a28 a33 .e) (.n a40 (.n (.some ⟨63, [a14, a5, a14, (.sl 86 0 0 0 .true), a14, a5, a5, (.sl 88 0 0 0 .true)], (.some 4)⟩) .e .e) .e)) (.n a28 (.n a150 a41 .e) a41)))) (.n a3 (.n a23 (.n a51 (.n a40 a77 (.n a151 a45 .e)) (.n a38 a169 (.n a28 (.n (.some ⟨134, [a10, a10, (.sl 89 0 5 0 .true), a19, a4, a8, a5, a5, a5], (.some 9)⟩) .e .e) .e))) (.n a40 (.n a40 a164 a77) (.n a30 (.n a38 a45 .e) (.n a28 (.n (.some ⟨3, [a5, a10], (.some 1)⟩) .e .e) .e)))) (.n a26 (.n a30 (.n a28 a166 (.n a167 a45 .e)) (.n a87 (.n a153 (.n (.some ⟨80, [a5, (.sl 75 0 9 0 .true), a43, a5, a52, a43, a5, a5, (.sl 77 0 0 0 .false), (.sl 78 0 0 0 .false), a10, (.sl 79 0 0 0 .false), a8, a5, a173, a43, a10, a10, a4, a4, a31, (.sl 81 0 0 0 .false), a8, a10, (.sl 82 0 0 0 .false), a43, a5, a5, a4, a4], (.some 10)⟩) .e .e) .e) a113)) (.n a28 (.n a90 a113 (.n a40 (.n (.some ⟨134, [a5, (.lit (.int .i64 (.ofNat 10))), (.sl 87 0 5 0 .true), a19, a4, a8, a5, a5, a5], (.some 9)⟩) .e .e) .e)) (.n a40 (.n a32 a41 .e) a41))))), 93⟩
def k2 : Memo := ⟨15, [a7], (.n .none a21 (.n a3 (.n a23 a64 .e) (.n a26 .e .e))), 9, (.agg a174), (.n .none (.n a1 (.n a2 (.n a9 a45 (.n a44 .e .e)) a103) (.n a20 (.n a57 a41 a35) a105)) (.n a3 (.n a23 (.n a51 a41 a39) a105) (.n a26 (.n a30 a45 .e) (.n a28 (.n a90 .e .e) .e)))), 26⟩
def k3 : Memo := ⟨22, [a7, (.agg a174)], (.n .none a176 (.n a3 a178 (.n a26 a179 (.n a28 (.n a90 .e .e) .e)))), 30, (.sl 30 0 1 0 .true), (.n .none a176 a180), 31⟩
def k4 : Memo := ⟨42, [a7, (.agg [(.sl 38 0 3 0 .true), a4, (.sl 51 0 1 0 .true), (.sl 54 0 0 0 .false)]), a5, (.agg [a16, a14, a11, a5, a5]), a5], (.n .none (.n a1 (.n a2 (.n a9 (.n a28 a129 a45) (.n a44 a73 .e)) (.n a28 (.n a28 a55 (.n a181 .e .e)) (.n a51 a45 .e))) (.n a20 (.n a57 (.n a40 (.n a177 .e .e) a41) (.n a34 a41 .e)) (.n a40 (.n a40 (.n a182 .e .e) a39) (.n a54 a41 .e)))) (.n a3 (.n a23 (.n a51 (.n a40 a64 a45) (.n a38 a45 .e)) (.n a40 (.n a40 a131 (.n a183 .e .e)) a184)) (.n a26 (.n a30 (.n a28 a129 a41) (.n a87 a41 .e)) (.n a28 (.n a90 (.n a185 .e .e) a35) (.n a69 a41 .e))))), 55, (.tup [(.agg a186), a4, (.sl 74 0 1 1 .false)]), (.n .none (.n a1 (.n a2 a189 (.n a28 a190 (.n a51 a45 a41))) a191) a194), 75⟩
def k5 : Memo := ⟨32, [a7, (.agg a186), a5], (.n .none (.n a1 (.n a2 a189 (.n a28 a190 (.n a51 a195 a41))) a191) a194), 76, (.agg [(.sl 76 0 3 0 .true), (.sl 89 0 1 0 .true), (.sl 91 0 1 0 .true), (.sl 94 0 0 0 .false)]), (.n .none (.n a1 (.n a2 (.n a9 (.n a28 a112 a108) (.n a44 a187 (.n a188 a41 .e))) (.n a28 (.n a28 (.n a54 a41 .e) (.n a181 a41 .e)) (.n a51 a195 (.n a40 (.n (.some ⟨63, [a5, a5, a14, (.sl 92 0 1 0 .true)], (.some 4)⟩) .e .e) .e)))) (.n a20 (.n a57 (.n a40 a184 a149) (.n a34 a113 (.n a28 (.n (.some ⟨111, [a5, a15, a11, a19, a62, a10], (.some 6)⟩) .e .e) .e))) (.n a40 (.n a40 (.n a182 a35 .e) (.n a38 a45 .e)) (.n a54 (.n a40 a73 .e) a104)))) (.n a3 (.n a23 (.n a51 (.n a40 (.n a51 a45 .e) a108) (.n a38 a104 (.n a30 a41 .e))) (.n a40 (.n a40 a192 (.n a183 a41 .e)) (.n a177 (.n a28 (.n (.some ⟨80, [a5, (.sl 77 0 9 0 .true), a43, a5, (.sl 78 0 0 0 .false), a43, a5, a5, (.sl 79 0 0 0 .false), a173, a10, (.sl 81 0 0 0 .false), a8, a5, (.sl 82 0 0 0 .false), a43, a5, a5, (.sl 83 0 0 0 .false), a61, a31, (.sl 85 0 0 0 .false), a8, a10, (.sl 86 0 0 0 .false), a43, a5, a5, (.sl 87 0 0 0 .false), (.sl 88 0 0 0 .false)], (.some 10)⟩) .e .e) .e) (.n a28 (.n (.some ⟨134, [a5, a15, (.sl 93 0 5 0 .true), a19, a4, a43, a5, a5, a5], (.some 9)⟩) .e .e) .e)))) (.n a26 (.n a30 (.n a28 a112 a149) (.n a87 a157 a113)) (.n a28 (.n a90 a193 a106) (.n a69 a149 a113))))), 95⟩
def k6 : Memo := ⟨17, [a7, (.agg a174), (.agg [a5, a5])], (.n .none (.n a1 (.n a2 (.n a9 (.n a28 a129 .e) (.n a44 .e .e)) (.n a28 a45 a64)) a175) a180), 32, (.tup [(.agg a65), a4, (.sl 51 0 1 1 .false), a5]), (.n .none (.n a1 a196 (.n a20 a133 (.n a40 a149 (.n a54 (.n a70 .e .e) .e)))) (.n a3 (.n a23 a136 (.n a40 a105 (.n a177 a41 .e))) a197)), 52⟩
def k7 : Memo := ⟨22, [a7, (.agg a65)], (.n .none (.n a1 a196 a135) (.n a3 a137 a197)), 54, (.sl 54 0 1 0 .true), (.n .none (.n a1 a196 a135) a139), 55⟩
def k8 : Memo := ⟨28, [a7, (.agg [a5, a5, a5, a4]), a10, (.sl 94 0 2 0 .true), a19], (.n .none (.n a1 (.n a2 (.n a9 a198 a199) a200) a204) (.n a3 (.n a23 (.n a51 a205 a206) a207) a208)), 95, (.tup [(.agg [a5, a5, a5, (.sl 95 0 1 0 .true)]), a5]), (.n .none (.n a1 (.n a2 (.n a9 (.n a28 (.n a29 a73 (.n (.some ⟨134, [a10, a5, (.sl 96 0 5 0 .true), a19, a4, a43, a5, a5, a5], (.some 9)⟩) .e .e)) (.n a37 a39 .e)) a199) a200) a204) (.n a3 (.n a23 (.n a51 (.n a40 (.n a76 a45 a33) (.n a79 a35 .e)) a206) a207) a208)), 97⟩
def k9 : Memo := ⟨42, [a7, (.agg a201), a5, (.agg [a17, a5, a10, a5, a5]), a5], (.n .none (.n a1 (.n a2 (.n a9 a198 (.n a44 a149 a129)) (.n a28 (.n a28 a149 a131) (.n a51 a107 a55))) (.n a20 (.n a57 (.n a40 (.n a30 a41 .e) a39) (.n a34 a108 (.n a66 .e .e))) (.n a40 (.n a40 a108 a134) (.n a54 a109 (.n a74 .e .e))))) (.n a3 (.n a23 (.n a51 a205 (.n a38 a149 a64)) (.n a40 (.n a40 a149 a129) (.n a66 a113 a131))) (.n a26 (.n a30 (.n a28 a108 a35) (.n a87 a108 a129)) (.n a28 (.n a90 a108 a134) (.n a69 a115 (.n a100 .e .e)))))), 81, (.tup [(.agg a80), (.sl 102 0 1 1 .false), (.sl 103 0 2 2 .false)]), (.n .none a110 (.n a3 (.n a23 (.n a51 a111 (.n a38 a149 (.n a51 a41 .e))) a114) a116)), 104⟩
end Go.Proofs.YtiepllpgifnloaaGreat.Px
namespace Go.Proofs.YtiepllpgifnloaaGreat.Px
open Go Go.Proofs.YtiepllpgifnloaaGreat.Vx Go.Proofs
set_option maxRecDepth 1000000
set_option maxHeartbeats 0
theorem ksetP {tb : T Ctr} {f : Nat} {c : Ctr} (h : ∀ f c, tb.get f = some c → @CtrOk Tryz.prog plainF f c) (hc : @CtrOk Tryz.prog plainF f c) : ∀ f' c', (tb.set f c).get f' = some c' → @CtrOk Tryz.prog plainF f' c' := fun f' c' e => by
  rw [T.get_put] at e
  split at e
  · rename_i e'; subst e'; obtain rfl := Option.some.inj e; exact hc
  · exact h f' c' e
theorem k0P : ∀ f c, (T.e : T Ctr).get f = some c → @CtrOk Tryz.prog plainF f c := fun f c e => by rw [T.get_e] at e; cases e
theorem mixedP : Tryz.prog.follows .mixedOrders = true := by kernel_rfl
theorem memoP {t : T Ctr} (ht : ∀ f c, t.get f = some c → @CtrOk Tryz.prog plainF f c) {m : Memo} (hr : runsK t m = true) {c : Ctr} (h : @CtrOk Tryz.prog plainF m.f c) : @CtrOk Tryz.prog plainF m.f (memoC m c) :=
  @memoC_ok Tryz.prog plainF mixedP _ _ _ (@call_ok Tryz.prog plainF mixedP t ht _ 100 50) m hr c h
end Go.Proofs.YtiepllpgifnloaaGreat.Px
