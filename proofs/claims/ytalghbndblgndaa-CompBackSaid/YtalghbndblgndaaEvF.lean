/- Printed by a program of this claim: the functions, as they are told. -/
import Derived.Test.YtalghbndblgndaaEvD
import Derived.Test.YtalghbndblgndaaEvAe
import Derived.Test.YtalghbndblgndaaEvAd
import Derived.Test.YtalghbndblgndaaEvR
namespace Go.Proofs.Ytalghbndblgndaa.Ev
open Go
set_option linter.unusedVariables false
noncomputable def bodyF (f : Func) : Code := match f.body with | some c => c | none => .skip
noncomputable def en_ (f : FD) (G : YR D f.as → Option (YR D f.ts)) : En D := ⟨f.g, f.pm, f.as, f.ts, f.nr, G⟩
theorem ok_ (f : FD) {l : List (En D)} {fn : Func} (hf : PP.funcs[f.g]? = some fn) (ha : AllOk D PP l) (hp : pmOk D l = true := by kernel_rfl) (hb : fn.body = some f.body := by kernel_rfl) (hr : fn.results.toList = f.rs := by kernel_rfl) (hn : fn.ntmps = f.nt := by kernel_rfl)
    (hm : (fn.name == "runtime.NumGoroutine") = false := by kernel_rfl) (hok : fdOk f = true := by kernel_rfl) (hw : xmOf D f.g = f.xm := by kernel_rfl) : FnOk D PP ⟨f.g, f.pm, f.as, f.ts, f.nr, sealF (Gof D f (tabH D l))⟩ :=
  fdS_ok lw f hp ha hf hb hr hn (enters_of hf hm hb) hok hw
/-- comp.short -/
def c133_0 : Cut := ⟨52, [.v 5 (.sl (.int .i64)), .v 6 (.int .i64), .v 7 (.int .i64)]⟩
noncomputable def fd133 : FD := ⟨133, bodyF Try.f133, Try.f133.results.toList, Try.f133.ntmps, [.val], [.v (.sl (.int .i64))], [.v (.bool)], 1, [c133_0], 5000, none⟩
noncomputable def h133 : List (En D) := []
noncomputable def G133 : YR D [.v (.sl (.int .i64))] → Option (YR D [.v (.bool)]) := sealF (Gof D fd133 (tabH D h133))
noncomputable def E133 : En D := en_ fd133 G133
noncomputable def F133 (x0 : List Int) : Option (Bool) := G133 (x0)
noncomputable def L133 : LL D (YR D fd133.ts) := sealF (LiF D fd133 (tabH D h133))
noncomputable def L133_0 (v5 : List Int) (v6 : Int) (v7 : Int) : Option (Bool) := L133 c133_0 (v5, v6, v7, ())
theorem E133_ok : FnOk D PP E133 := ok_ fd133 (l := h133) Try.func133 (.nil)
/-- comp.may -/
noncomputable def fd85 : FD := ⟨85, bodyF Try.f85, Try.f85.results.toList, Try.f85.ntmps, [.val, .val], [.v (.st 0), .v (.int .i64)], [.v (.bool)], 1, [], 5000, none⟩
noncomputable def h85 : List (En D) := [E133]
noncomputable def G85 : YR D [.v (.st 0), .v (.int .i64)] → Option (YR D [.v (.bool)]) := sealF (Gof D fd85 (tabH D h85))
noncomputable def E85 : En D := en_ fd85 G85
noncomputable def F85 (x0 : S47) (x1 : Int) : Option (Bool) := G85 (x0, x1)
theorem E85_ok : FnOk D PP E85 := ok_ fd85 (l := h85) Try.func85 (.cons E133_ok .nil)
/-- comp.May -/
def c35_0 : Cut := ⟨116, [.v 1 (.int .i64), .v 23 (.sl (.st 0)), .v 24 (.int .i64), .v 25 (.int .i64)]⟩
noncomputable def fd35 : FD := ⟨35, bodyF Try.f35, Try.f35.results.toList, Try.f35.ntmps, [.val, .val], [.v (.sl (.st 0)), .v (.int .i64)], [.v (.bool)], 1, [c35_0], 5000, none⟩
noncomputable def h35 : List (En D) := [E85]
noncomputable def G35 : YR D [.v (.sl (.st 0)), .v (.int .i64)] → Option (YR D [.v (.bool)]) := sealF (Gof D fd35 (tabH D h35))
noncomputable def E35 : En D := en_ fd35 G35
noncomputable def F35 (x0 : List S47) (x1 : Int) : Option (Bool) := G35 (x0, x1)
noncomputable def L35 : LL D (YR D fd35.ts) := sealF (LiF D fd35 (tabH D h35))
noncomputable def L35_0 (v1 : Int) (v23 : List S47) (v24 : Int) (v25 : Int) : Option (Bool) := L35 c35_0 (v1, v23, v24, v25, ())
theorem E35_ok : FnOk D PP E35 := ok_ fd35 (l := h35) Try.func35 (.cons E85_ok .nil)
/-- octet.P16 -/
noncomputable def fd96 : FD := ⟨96, bodyF Try.f96, Try.f96.results.toList, Try.f96.ntmps, [.val], [.v (.int .u16)], [.v (.str)], 1, [], 5000, none⟩
noncomputable def h96 : List (En D) := []
noncomputable def G96 : YR D [.v (.int .u16)] → Option (YR D [.v (.str)]) := sealF (Gof D fd96 (tabH D h96))
noncomputable def E96 : En D := en_ fd96 G96
noncomputable def F96 (x0 : Int) : Option (ByteArray) := G96 (x0)
theorem E96_ok : FnOk D PP E96 := ok_ fd96 (l := h96) Try.func96 (.nil)
/-- comp.p16 -/
def c80_0 : Cut := ⟨116, [.v 3 (.str), .v 6 (.sl (.int .i64)), .v 7 (.int .i64), .v 8 (.int .i64)]⟩
noncomputable def fd80 : FD := ⟨80, bodyF Try.f80, Try.f80.results.toList, Try.f80.ntmps, [.val], [.v (.sl (.int .i64))], [.v (.str)], 1, [c80_0], 5000, none⟩
noncomputable def h80 : List (En D) := [E96]
noncomputable def G80 : YR D [.v (.sl (.int .i64))] → Option (YR D [.v (.str)]) := sealF (Gof D fd80 (tabH D h80))
noncomputable def E80 : En D := en_ fd80 G80
noncomputable def F80 (x0 : List Int) : Option (ByteArray) := G80 (x0)
noncomputable def L80 : LL D (YR D fd80.ts) := sealF (LiF D fd80 (tabH D h80))
noncomputable def L80_0 (v3 : ByteArray) (v6 : List Int) (v7 : Int) (v8 : Int) : Option (ByteArray) := L80 c80_0 (v3, v6, v7, v8, ())
theorem E80_ok : FnOk D PP E80 := ok_ fd80 (l := h80) Try.func80 (.cons E96_ok .nil)
/-- strings.Repeat -/
noncomputable def G81 : YR D [.v (.str), .v (.int .i64)] → Option (YR D [.v (.str)]) := sealF fun x => strings_Repeat x.1 x.2
noncomputable def E81 : En D := ⟨81, [.val, .val], [.v (.str), .v (.int .i64)], [.v (.str)], 1, G81⟩
noncomputable def F81 (x0 : ByteArray) (x1 : Int) : Option (ByteArray) := G81 (x0, x1)
theorem F81_eq (x0 : ByteArray) (x1 : Int) : F81 x0 x1 = strings_Repeat x0 x1 := congrFun (sealF_eq _) (x0, x1)
theorem E81_ok : FnOk D PP E81 := strings_Repeat_ok
/-- comp.turned -/
def c131_0 : Cut := ⟨50, [.box 1 1 (.st 0) 0 []]⟩
def c131_1 : Cut := ⟨51, [.box 1 1 (.st 0) 0 []]⟩
noncomputable def fd131 : FD := ⟨131, bodyF Try.f131, Try.f131.results.toList, Try.f131.ntmps, [.val], [.v (.st 0)], [.v (.int .i64), .v (.str)], 2, [c131_0, c131_1], 5000, none⟩
noncomputable def h131 : List (En D) := [E80]
noncomputable def G131 : YR D [.v (.st 0)] → Option (YR D [.v (.int .i64), .v (.str)]) := sealF (Gof D fd131 (tabH D h131))
noncomputable def E131 : En D := en_ fd131 G131
noncomputable def F131 (x0 : S47) : Option (Int × ByteArray) := G131 (x0)
noncomputable def L131 : LL D (YR D fd131.ts) := sealF (LiF D fd131 (tabH D h131))
noncomputable def L131_0 (v1 : S47) : Option (Int × ByteArray) := L131 c131_0 (v1, ())
noncomputable def L131_1 (v1 : S47) : Option (Int × ByteArray) := L131 c131_1 (v1, ())
theorem E131_ok : FnOk D PP E131 := ok_ fd131 (l := h131) Try.func131 (.cons E80_ok .nil)
/-- comp.tiny -/
noncomputable def fd132 : FD := ⟨132, bodyF Try.f132, Try.f132.results.toList, Try.f132.ntmps, [.val], [.v (.int .i64)], [.v (.bool)], 1, [], 5000, none⟩
noncomputable def h132 : List (En D) := []
noncomputable def G132 : YR D [.v (.int .i64)] → Option (YR D [.v (.bool)]) := sealF (Gof D fd132 (tabH D h132))
noncomputable def E132 : En D := en_ fd132 G132
noncomputable def F132 (x0 : Int) : Option (Bool) := G132 (x0)
theorem E132_ok : FnOk D PP E132 := ok_ fd132 (l := h132) Try.func132 (.nil)
/-- comp.made -/
def c82_0 : Cut := ⟨31, [.box 2 2 (.st 0) 0 [], .v 5 (.int .i64), .v 6 (.str)]⟩
def c82_1 : Cut := ⟨127, [.box 2 2 (.st 0) 0 [], .v 5 (.int .i64), .v 6 (.str), .v 7 (.str)]⟩
def c82_2 : Cut := ⟨506, [.box 2 2 (.st 0) 0 [], .v 5 (.int .i64), .v 6 (.str)]⟩
noncomputable def fd82 : FD := ⟨82, bodyF Try.f82, Try.f82.results.toList, Try.f82.ntmps, [.val, .val], [.v (.st 0), .v (.bool)], [.v (.str)], 1, [c82_0, c82_1, c82_2], 5000, none⟩
noncomputable def h82 : List (En D) := [E80, E131, E132]
noncomputable def G82 : YR D [.v (.st 0), .v (.bool)] → Option (YR D [.v (.str)]) := sealF (Gof D fd82 (tabH D h82))
noncomputable def E82 : En D := en_ fd82 G82
noncomputable def F82 (x0 : S47) (x1 : Bool) : Option (ByteArray) := G82 (x0, x1)
noncomputable def L82 : LL D (YR D fd82.ts) := sealF (LiF D fd82 (tabH D h82))
noncomputable def L82_0 (v2 : S47) (v5 : Int) (v6 : ByteArray) : Option (ByteArray) := L82 c82_0 (v2, v5, v6, ())
noncomputable def L82_1 (v2 : S47) (v5 : Int) (v6 : ByteArray) (v7 : ByteArray) : Option (ByteArray) := L82 c82_1 (v2, v5, v6, v7, ())
noncomputable def L82_2 (v2 : S47) (v5 : Int) (v6 : ByteArray) : Option (ByteArray) := L82 c82_2 (v2, v5, v6, ())
theorem E82_ok : FnOk D PP E82 := ok_ fd82 (l := h82) Try.func82 (.cons E80_ok (.cons E131_ok (.cons E132_ok .nil)))
/-- comp.Make -/
def c33_0 : Cut := ⟨244, [.v 0 (.sl (.st 0)), .v 4 (.str), .v 14 (.sl (.st 0)), .v 15 (.int .i64), .v 16 (.int .i64)]⟩
noncomputable def fd33 : FD := ⟨33, bodyF Try.f33, Try.f33.results.toList, Try.f33.ntmps, [.val], [.v (.sl (.st 0))], [.v (.str), .v (.int .i64)], 2, [c33_0], 5000, none⟩
noncomputable def h33 : List (En D) := [E35, E80, E81, E82]
noncomputable def G33 : YR D [.v (.sl (.st 0))] → Option (YR D [.v (.str), .v (.int .i64)]) := sealF (Gof D fd33 (tabH D h33))
noncomputable def E33 : En D := en_ fd33 G33
noncomputable def F33 (x0 : List S47) : Option (ByteArray × Int) := G33 (x0)
noncomputable def L33 : LL D (YR D fd33.ts) := sealF (LiF D fd33 (tabH D h33))
noncomputable def L33_0 (v0 : List S47) (v4 : ByteArray) (v14 : List S47) (v15 : Int) (v16 : Int) : Option (ByteArray × Int) := L33 c33_0 (v0, v4, v14, v15, v16, ())
theorem E33_ok : FnOk D PP E33 := ok_ fd33 (l := h33) Try.func33 (.cons E35_ok (.cons E80_ok (.cons E81_ok (.cons E82_ok .nil))))
/-- octet.Cut -/
def c138_0 : Cut := ⟨7, [.v 0 (.str), .v 1 (.int .i64), .v 2 (.int .i64)]⟩
noncomputable def fd138 : FD := ⟨138, bodyF Try.f138, Try.f138.results.toList, Try.f138.ntmps, [.val, .val, .val], [.v (.str), .v (.int .i64), .v (.int .i64)], [.v (.str), .v (.int .i64)], 2, [c138_0], 5000, none⟩
noncomputable def h138 : List (En D) := []
noncomputable def G138 : YR D [.v (.str), .v (.int .i64), .v (.int .i64)] → Option (YR D [.v (.str), .v (.int .i64)]) := sealF (Gof D fd138 (tabH D h138))
noncomputable def E138 : En D := en_ fd138 G138
noncomputable def F138 (x0 : ByteArray) (x1 : Int) (x2 : Int) : Option (ByteArray × Int) := G138 (x0, x1, x2)
noncomputable def L138 : LL D (YR D fd138.ts) := sealF (LiF D fd138 (tabH D h138))
noncomputable def L138_0 (v0 : ByteArray) (v1 : Int) (v2 : Int) : Option (ByteArray × Int) := L138 c138_0 (v0, v1, v2, ())
theorem E138_ok : FnOk D PP E138 := ok_ fd138 (l := h138) Try.func138 (.nil)
/-- octet.number -/
def c139_0 : Cut := ⟨116, [.v 0 (.str), .v 3 (.int .u32), .v 6 (.int .i64), .v 7 (.int .i64)]⟩
noncomputable def fd139 : FD := ⟨139, bodyF Try.f139, Try.f139.results.toList, Try.f139.ntmps, [.val], [.v (.str)], [.v (.int .u32)], 1, [c139_0], 5000, none⟩
noncomputable def h139 : List (En D) := []
noncomputable def G139 : YR D [.v (.str)] → Option (YR D [.v (.int .u32)]) := sealF (Gof D fd139 (tabH D h139))
noncomputable def E139 : En D := en_ fd139 G139
noncomputable def F139 (x0 : ByteArray) : Option (Int) := G139 (x0)
noncomputable def L139 : LL D (YR D fd139.ts) := sealF (LiF D fd139 (tabH D h139))
noncomputable def L139_0 (v0 : ByteArray) (v3 : Int) (v6 : Int) (v7 : Int) : Option (Int) := L139 c139_0 (v0, v3, v6, v7, ())
theorem E139_ok : FnOk D PP E139 := ok_ fd139 (l := h139) Try.func139 (.nil)
/-- octet.U16 -/
noncomputable def fd88 : FD := ⟨88, bodyF Try.f88, Try.f88.results.toList, Try.f88.ntmps, [.val, .val], [.v (.str), .v (.int .i64)], [.v (.int .u16), .v (.int .i64)], 2, [], 5000, none⟩
noncomputable def h88 : List (En D) := [E138, E139]
noncomputable def G88 : YR D [.v (.str), .v (.int .i64)] → Option (YR D [.v (.int .u16), .v (.int .i64)]) := sealF (Gof D fd88 (tabH D h88))
noncomputable def E88 : En D := en_ fd88 G88
noncomputable def F88 (x0 : ByteArray) (x1 : Int) : Option (Int × Int) := G88 (x0, x1)
theorem E88_ok : FnOk D PP E88 := ok_ fd88 (l := h88) Try.func88 (.cons E138_ok (.cons E139_ok .nil))
/-- comp.Is -/
noncomputable def fd39 : FD := ⟨39, bodyF Try.f39, Try.f39.results.toList, Try.f39.ntmps, [.val], [.v (.str)], [.v (.bool)], 1, [], 5000, none⟩
noncomputable def h39 : List (En D) := [E88]
noncomputable def G39 : YR D [.v (.str)] → Option (YR D [.v (.bool)]) := sealF (Gof D fd39 (tabH D h39))
noncomputable def E39 : En D := en_ fd39 G39
noncomputable def F39 (x0 : ByteArray) : Option (Bool) := G39 (x0)
theorem E39_ok : FnOk D PP E39 := ok_ fd39 (l := h39) Try.func39 (.cons E88_ok .nil)
/-- octet.New -/
noncomputable def fd70 : FD := ⟨70, bodyF Try.f70, Try.f70.results.toList, Try.f70.ntmps, [.val], [.v (.str)], [.v (.ptr (.st 1))], 1, [], 5000, some ⟨[.val], [(0, some (.st 1))]⟩⟩
noncomputable def h70 : List (En D) := []
noncomputable def G70 : YR D [.v (.str)] → Option (YR D [.v (.ptr (.st 1))]) := sealF (Gof D fd70 (tabH D h70))
noncomputable def E70 : En D := en_ fd70 G70
noncomputable def F70 (x0 : ByteArray) : Option (Option S192) := G70 (x0)
theorem E70_ok : FnOk D PP E70 := ok_ fd70 (l := h70) Try.func70 (.nil)
/-- (*octet.Reader).take -/
def c120_0 : Cut := ⟨7, [.box 0 0 (.st 1) 0 [], .v 1 (.int .i64)]⟩
noncomputable def fd120 : FD := ⟨120, bodyF Try.f120, Try.f120.results.toList, Try.f120.ntmps, [.ref, .val], [.v (.st 1), .v (.int .i64)], [.v (.str), .v (.st 1)], 1, [c120_0], 5000, none⟩
noncomputable def h120 : List (En D) := [E138]
noncomputable def G120 : YR D [.v (.st 1), .v (.int .i64)] → Option (YR D [.v (.str), .v (.st 1)]) := sealF (Gof D fd120 (tabH D h120))
noncomputable def E120 : En D := en_ fd120 G120
noncomputable def F120 (x0 : S192) (x1 : Int) : Option (ByteArray × S192) := G120 (x0, x1)
noncomputable def L120 : LL D (YR D fd120.ts) := sealF (LiF D fd120 (tabH D h120))
noncomputable def L120_0 (v0 : S192) (v1 : Int) : Option (ByteArray × S192) := L120 c120_0 (v0, v1, ())
theorem E120_ok : FnOk D PP E120 := ok_ fd120 (l := h120) Try.func120 (.cons E138_ok .nil)
/-- (*octet.Reader).U16 -/
noncomputable def fd119 : FD := ⟨119, bodyF Try.f119, Try.f119.results.toList, Try.f119.ntmps, [.ref], [.v (.st 1)], [.v (.int .u16), .v (.st 1)], 1, [], 5000, none⟩
noncomputable def h119 : List (En D) := [E120, E139]
noncomputable def G119 : YR D [.v (.st 1)] → Option (YR D [.v (.int .u16), .v (.st 1)]) := sealF (Gof D fd119 (tabH D h119))
noncomputable def E119 : En D := en_ fd119 G119
noncomputable def F119 (x0 : S192) : Option (Int × S192) := G119 (x0)
theorem E119_ok : FnOk D PP E119 := ok_ fd119 (l := h119) Try.func119 (.cons E120_ok (.cons E139_ok .nil))
/-- (*octet.Reader).Err -/
noncomputable def fd73 : FD := ⟨73, bodyF Try.f73, Try.f73.results.toList, Try.f73.ntmps, [.ref], [.v (.st 1)], [.v (.int .i64), .v (.st 1)], 1, [], 5000, none⟩
noncomputable def h73 : List (En D) := []
noncomputable def G73 : YR D [.v (.st 1)] → Option (YR D [.v (.int .i64), .v (.st 1)]) := sealF (Gof D fd73 (tabH D h73))
noncomputable def E73 : En D := en_ fd73 G73
noncomputable def F73 (x0 : S192) : Option (Int × S192) := G73 (x0)
theorem E73_ok : FnOk D PP E73 := ok_ fd73 (l := h73) Try.func73 (.nil)
/-- comp.right -/
noncomputable def fd135 : FD := ⟨135, bodyF Try.f135, Try.f135.results.toList, Try.f135.ntmps, [.val], [.v (.int .u16)], [.v (.bool)], 1, [], 5000, none⟩
noncomputable def h135 : List (En D) := []
noncomputable def G135 : YR D [.v (.int .u16)] → Option (YR D [.v (.bool)]) := sealF (Gof D fd135 (tabH D h135))
noncomputable def E135 : En D := en_ fd135 G135
noncomputable def F135 (x0 : Int) : Option (Bool) := G135 (x0)
theorem E135_ok : FnOk D PP E135 := ok_ fd135 (l := h135) Try.func135 (.nil)
/-- (*octet.Reader).I16 -/
noncomputable def fd71 : FD := ⟨71, bodyF Try.f71, Try.f71.results.toList, Try.f71.ntmps, [.ref], [.v (.st 1)], [.v (.int .i16), .v (.st 1)], 1, [], 5000, none⟩
noncomputable def h71 : List (En D) := [E119]
noncomputable def G71 : YR D [.v (.st 1)] → Option (YR D [.v (.int .i16), .v (.st 1)]) := sealF (Gof D fd71 (tabH D h71))
noncomputable def E71 : En D := en_ fd71 G71
noncomputable def F71 (x0 : S192) : Option (Int × S192) := G71 (x0)
theorem E71_ok : FnOk D PP E71 := ok_ fd71 (l := h71) Try.func71 (.cons E119_ok .nil)
/-- (*octet.Reader).U8 -/
noncomputable def fd158 : FD := ⟨158, bodyF Try.f158, Try.f158.results.toList, Try.f158.ntmps, [.ref], [.v (.st 1)], [.v (.int .u8), .v (.st 1)], 1, [], 5000, none⟩
noncomputable def h158 : List (En D) := [E120, E139]
noncomputable def G158 : YR D [.v (.st 1)] → Option (YR D [.v (.int .u8), .v (.st 1)]) := sealF (Gof D fd158 (tabH D h158))
noncomputable def E158 : En D := en_ fd158 G158
noncomputable def F158 (x0 : S192) : Option (Int × S192) := G158 (x0)
theorem E158_ok : FnOk D PP E158 := ok_ fd158 (l := h158) Try.func158 (.cons E120_ok (.cons E139_ok .nil))
/-- comp.place -/
noncomputable def fd136 : FD := ⟨136, bodyF Try.f136, Try.f136.results.toList, Try.f136.ntmps, [.ref, .val], [.v (.st 1), .v (.int .u16)], [.v (.int .i64), .v (.int .i64), .v (.st 1)], 2, [], 5000, none⟩
noncomputable def h136 : List (En D) := [E71, E158]
noncomputable def G136 : YR D [.v (.st 1), .v (.int .u16)] → Option (YR D [.v (.int .i64), .v (.int .i64), .v (.st 1)]) := sealF (Gof D fd136 (tabH D h136))
noncomputable def E136 : En D := en_ fd136 G136
noncomputable def F136 (x0 : S192) (x1 : Int) : Option (Int × Int × S192) := G136 (x0, x1)
theorem E136_ok : FnOk D PP E136 := ok_ fd136 (l := h136) Try.func136 (.cons E71_ok (.cons E158_ok .nil))
/-- comp.turn -/
noncomputable def fd137 : FD := ⟨137, bodyF Try.f137, Try.f137.results.toList, Try.f137.ntmps, [.ref, .val, .ref], [.v (.st 1), .v (.int .u16), .v (.st 0)], [.v (.st 1), .v (.st 0)], 0, [], 5000, none⟩
noncomputable def h137 : List (En D) := [E71]
noncomputable def G137 : YR D [.v (.st 1), .v (.int .u16), .v (.st 0)] → Option (YR D [.v (.st 1), .v (.st 0)]) := sealF (Gof D fd137 (tabH D h137))
noncomputable def E137 : En D := en_ fd137 G137
noncomputable def F137 (x0 : S192) (x1 : Int) (x2 : S47) : Option (S192 × S47) := G137 (x0, x1, x2)
theorem E137_ok : FnOk D PP E137 := ok_ fd137 (l := h137) Try.func137 (.cons E71_ok .nil)
/-- comp.part -/
def c87_0 : Cut := ⟨15, [.box 0 0 (.st 1) 0 [], .box 4 4 (.st 0) 0 [], .v 7 (.int .u16), .v 8 (.int .i64)]⟩
noncomputable def fd87 : FD := ⟨87, bodyF Try.f87, Try.f87.results.toList, Try.f87.ntmps, [.ref, .val], [.v (.st 1), .v (.int .i64)], [.v (.st 0), .v (.bool), .v (.int .i64), .v (.st 1)], 3, [c87_0], 5000, none⟩
noncomputable def h87 : List (En D) := [E73, E119, E135, E136, E137]
noncomputable def G87 : YR D [.v (.st 1), .v (.int .i64)] → Option (YR D [.v (.st 0), .v (.bool), .v (.int .i64), .v (.st 1)]) := sealF (Gof D fd87 (tabH D h87))
noncomputable def E87 : En D := en_ fd87 G87
noncomputable def F87 (x0 : S192) (x1 : Int) : Option (S47 × Bool × Int × S192) := G87 (x0, x1)
noncomputable def L87 : LL D (YR D fd87.ts) := sealF (LiF D fd87 (tabH D h87))
noncomputable def L87_0 (v0 : S192) (v4 : S47) (v7 : Int) (v8 : Int) : Option (S47 × Bool × Int × S192) := L87 c87_0 (v0, v4, v7, v8, ())
theorem E87_ok : FnOk D PP E87 := ok_ fd87 (l := h87) Try.func87 (.cons E73_ok (.cons E119_ok (.cons E135_ok (.cons E136_ok (.cons E137_ok .nil)))))
/-- comp.Parse -/
def c37_0 : Cut := ⟨51, [.v 0 (.str), .v 1 (.int .i64)]⟩
def c37_1 : Cut := ⟨124, [.v 1 (.int .i64), .ob 6 (.st 1), .own 7 (.st 0)]⟩
noncomputable def fd37 : FD := ⟨37, bodyF Try.f37, Try.f37.results.toList, Try.f37.ntmps, [.val, .val], [.v (.str), .v (.int .i64)], [.v (.sl (.st 0)), .v (.int .i64)], 2, [c37_0, c37_1], 5000, none⟩
noncomputable def h37 : List (En D) := [E39, E70, E87]
noncomputable def G37 : YR D [.v (.str), .v (.int .i64)] → Option (YR D [.v (.sl (.st 0)), .v (.int .i64)]) := sealF (Gof D fd37 (tabH D h37))
noncomputable def E37 : En D := en_ fd37 G37
noncomputable def F37 (x0 : ByteArray) (x1 : Int) : Option (List S47 × Int) := G37 (x0, x1)
noncomputable def L37 : LL D (YR D fd37.ts) := sealF (LiF D fd37 (tabH D h37))
noncomputable def L37_0 (v0 : ByteArray) (v1 : Int) : Option (List S47 × Int) := L37 c37_0 (v0, v1, ())
noncomputable def L37_1 (v1 : Int) (v6 : S192) (v7 : List S47) : Option (List S47 × Int) := L37 c37_1 (v1, v6, v7, ())
theorem E37_ok : FnOk D PP E37 := ok_ fd37 (l := h37) Try.func37 (.cons E39_ok (.cons E70_ok (.cons E87_ok .nil)))
/-- comp.far -/
noncomputable def fd90 : FD := ⟨90, bodyF Try.f90, Try.f90.results.toList, Try.f90.ntmps, [.val], [.v (.int .i64)], [.v (.bool)], 1, [], 5000, none⟩
noncomputable def h90 : List (En D) := []
noncomputable def G90 : YR D [.v (.int .i64)] → Option (YR D [.v (.bool)]) := sealF (Gof D fd90 (tabH D h90))
noncomputable def E90 : En D := en_ fd90 G90
noncomputable def F90 (x0 : Int) : Option (Bool) := G90 (x0)
theorem E90_ok : FnOk D PP E90 := ok_ fd90 (l := h90) Try.func90 (.nil)
/-- comp.rounded -/
noncomputable def fd91 : FD := ⟨91, bodyF Try.f91, Try.f91.results.toList, Try.f91.ntmps, [.val], [.v (.int .i64)], [.v (.int .i64)], 1, [], 5000, none⟩
noncomputable def h91 : List (En D) := []
noncomputable def G91 : YR D [.v (.int .i64)] → Option (YR D [.v (.int .i64)]) := sealF (Gof D fd91 (tabH D h91))
noncomputable def E91 : En D := en_ fd91 G91
noncomputable def F91 (x0 : Int) : Option (Int) := G91 (x0)
theorem E91_ok : FnOk D PP E91 := ok_ fd91 (l := h91) Try.func91 (.nil)
/-- comp.unit -/
noncomputable def fd92 : FD := ⟨92, bodyF Try.f92, Try.f92.results.toList, Try.f92.ntmps, [.val], [.v (.int .i64)], [.v (.bool)], 1, [], 5000, none⟩
noncomputable def h92 : List (En D) := []
noncomputable def G92 : YR D [.v (.int .i64)] → Option (YR D [.v (.bool)]) := sealF (Gof D fd92 (tabH D h92))
noncomputable def E92 : En D := en_ fd92 G92
noncomputable def F92 (x0 : Int) : Option (Bool) := G92 (x0)
theorem E92_ok : FnOk D PP E92 := ok_ fd92 (l := h92) Try.func92 (.nil)
/-- comp.Move -/
def c42_0 : Cut := ⟨7, [.v 1 (.int .i64), .v 2 (.int .i64), .box 3 3 (.st 0) 0 []]⟩
noncomputable def fd42 : FD := ⟨42, bodyF Try.f42, Try.f42.results.toList, Try.f42.ntmps, [.val, .val, .val], [.v (.st 0), .v (.int .i64), .v (.int .i64)], [.v (.int .i64), .v (.int .i64), .v (.int .i64)], 3, [c42_0], 5000, none⟩
noncomputable def h42 : List (En D) := [E85, E90, E91, E92]
noncomputable def G42 : YR D [.v (.st 0), .v (.int .i64), .v (.int .i64)] → Option (YR D [.v (.int .i64), .v (.int .i64), .v (.int .i64)]) := sealF (Gof D fd42 (tabH D h42))
noncomputable def E42 : En D := en_ fd42 G42
noncomputable def F42 (x0 : S47) (x1 : Int) (x2 : Int) : Option (Int × Int × Int) := G42 (x0, x1, x2)
noncomputable def L42 : LL D (YR D fd42.ts) := sealF (LiF D fd42 (tabH D h42))
noncomputable def L42_0 (v1 : Int) (v2 : Int) (v3 : S47) : Option (Int × Int × Int) := L42 c42_0 (v1, v2, v3, ())
theorem E42_ok : FnOk D PP E42 := ok_ fd42 (l := h42) Try.func42 (.cons E85_ok (.cons E90_ok (.cons E91_ok (.cons E92_ok .nil))))
/-- pochoirlaw14.awake -/
noncomputable def fd32 : FD := ⟨32, bodyF Try.f32, Try.f32.results.toList, Try.f32.ntmps, [], [], [.v (.bool)], 1, [], 5000, none⟩
noncomputable def h32 : List (En D) := [E33, E37, E39, E42]
noncomputable def G32 : YR D [] → Option (YR D [.v (.bool)]) := sealF (Gof D fd32 (tabH D h32))
noncomputable def E32 : En D := en_ fd32 G32
noncomputable def F32 : Option (Bool) := G32 ()
theorem E32_ok : FnOk D PP E32 := ok_ fd32 (l := h32) Try.func32 (.cons E33_ok (.cons E37_ok (.cons E39_ok (.cons E42_ok .nil))))
/-- pochoirref14.short -/
noncomputable def fd134 : FD := ⟨134, bodyF Try.f134, Try.f134.results.toList, Try.f134.ntmps, [.val], [.v (.int .i64)], [.v (.bool)], 1, [], 5000, none⟩
noncomputable def h134 : List (En D) := []
noncomputable def G134 : YR D [.v (.int .i64)] → Option (YR D [.v (.bool)]) := sealF (Gof D fd134 (tabH D h134))
noncomputable def E134 : En D := en_ fd134 G134
noncomputable def F134 (x0 : Int) : Option (Bool) := G134 (x0)
theorem E134_ok : FnOk D PP E134 := ok_ fd134 (l := h134) Try.func134 (.nil)
/-- pochoirref14.One -/
noncomputable def fd86 : FD := ⟨86, bodyF Try.f86, Try.f86.results.toList, Try.f86.ntmps, [.val, .val], [.v (.st 0), .v (.int .i64)], [.v (.bool)], 1, [], 5000, none⟩
noncomputable def h86 : List (En D) := [E134]
noncomputable def G86 : YR D [.v (.st 0), .v (.int .i64)] → Option (YR D [.v (.bool)]) := sealF (Gof D fd86 (tabH D h86))
noncomputable def E86 : En D := en_ fd86 G86
noncomputable def F86 (x0 : S47) (x1 : Int) : Option (Bool) := G86 (x0, x1)
theorem E86_ok : FnOk D PP E86 := ok_ fd86 (l := h86) Try.func86 (.cons E134_ok .nil)
/-- pochoirref14.May -/
def c36_0 : Cut := ⟨116, [.v 0 (.sl (.st 0)), .v 1 (.int .i64), .v 5 (.int .i64)]⟩
noncomputable def fd36 : FD := ⟨36, bodyF Try.f36, Try.f36.results.toList, Try.f36.ntmps, [.val, .val], [.v (.sl (.st 0)), .v (.int .i64)], [.v (.bool)], 1, [c36_0], 5000, none⟩
noncomputable def h36 : List (En D) := [E86]
noncomputable def G36 : YR D [.v (.sl (.st 0)), .v (.int .i64)] → Option (YR D [.v (.bool)]) := sealF (Gof D fd36 (tabH D h36))
noncomputable def E36 : En D := en_ fd36 G36
noncomputable def F36 (x0 : List S47) (x1 : Int) : Option (Bool) := G36 (x0, x1)
noncomputable def L36 : LL D (YR D fd36.ts) := sealF (LiF D fd36 (tabH D h36))
noncomputable def L36_0 (v0 : List S47) (v1 : Int) (v5 : Int) : Option (Bool) := L36 c36_0 (v0, v1, v5, ())
theorem E36_ok : FnOk D PP E36 := ok_ fd36 (l := h36) Try.func36 (.cons E86_ok .nil)
/-- pochoirref07.Put -/
def c67_0 : Cut := ⟨116, [.v 0 (.int .u32), .v 1 (.int .i64), .v 5 (.str), .v 6 (.int .i64)]⟩
noncomputable def fd67 : FD := ⟨67, bodyF Try.f67, Try.f67.results.toList, Try.f67.ntmps, [.val, .val], [.v (.int .u32), .v (.int .i64)], [.v (.str)], 1, [c67_0], 5000, none⟩
noncomputable def h67 : List (En D) := []
noncomputable def G67 : YR D [.v (.int .u32), .v (.int .i64)] → Option (YR D [.v (.str)]) := sealF (Gof D fd67 (tabH D h67))
noncomputable def E67 : En D := en_ fd67 G67
noncomputable def F67 (x0 : Int) (x1 : Int) : Option (ByteArray) := G67 (x0, x1)
noncomputable def L67 : LL D (YR D fd67.ts) := sealF (LiF D fd67 (tabH D h67))
noncomputable def L67_0 (v0 : Int) (v1 : Int) (v5 : ByteArray) (v6 : Int) : Option (ByteArray) := L67 c67_0 (v0, v1, v5, v6, ())
theorem E67_ok : FnOk D PP E67 := ok_ fd67 (l := h67) Try.func67 (.nil)
/-- pochoirref14.tiny -/
noncomputable def fd83 : FD := ⟨83, bodyF Try.f83, Try.f83.results.toList, Try.f83.ntmps, [.val], [.v (.int .i64)], [.v (.bool)], 1, [], 5000, none⟩
noncomputable def h83 : List (En D) := []
noncomputable def G83 : YR D [.v (.int .i64)] → Option (YR D [.v (.bool)]) := sealF (Gof D fd83 (tabH D h83))
noncomputable def E83 : En D := en_ fd83 G83
noncomputable def F83 (x0 : Int) : Option (Bool) := G83 (x0)
theorem E83_ok : FnOk D PP E83 := ok_ fd83 (l := h83) Try.func83 (.nil)
/-- pochoirref14.p16 -/
noncomputable def fd84 : FD := ⟨84, bodyF Try.f84, Try.f84.results.toList, Try.f84.ntmps, [.val], [.v (.int .i64)], [.v (.str)], 1, [], 5000, none⟩
noncomputable def h84 : List (En D) := [E67]
noncomputable def G84 : YR D [.v (.int .i64)] → Option (YR D [.v (.str)]) := sealF (Gof D fd84 (tabH D h84))
noncomputable def E84 : En D := en_ fd84 G84
noncomputable def F84 (x0 : Int) : Option (ByteArray) := G84 (x0)
theorem E84_ok : FnOk D PP E84 := ok_ fd84 (l := h84) Try.func84 (.cons E67_ok .nil)
/-- pochoirref14.Make -/
def c34_0 : Cut := ⟨244, [.v 0 (.sl (.st 0)), .v 4 (.str), .v 5 (.int .i64)]⟩
def c34_1 : Cut := ⟨15655, [.v 0 (.sl (.st 0)), .v 4 (.str), .v 5 (.int .i64), .box 6 6 (.st 0) 0 [], .v 7 (.int .i64)]⟩
def c34_2 : Cut := ⟨62623, [.v 0 (.sl (.st 0)), .v 4 (.str), .v 5 (.int .i64), .box 6 6 (.st 0) 0 [], .v 7 (.int .i64), .v 8 (.str)]⟩
def c34_3 : Cut := ⟨250490, [.v 0 (.sl (.st 0)), .v 4 (.str), .v 5 (.int .i64), .box 6 6 (.st 0) 0 [], .v 7 (.int .i64)]⟩
def c34_4 : Cut := ⟨250495, [.v 0 (.sl (.st 0)), .v 4 (.str), .v 5 (.int .i64), .box 6 6 (.st 0) 0 [], .v 7 (.int .i64), .v 8 (.str), .v 10 (.bool)]⟩
def c34_5 : Cut := ⟨500991, [.v 0 (.sl (.st 0)), .v 4 (.str), .v 5 (.int .i64), .box 6 6 (.st 0) 0 [], .v 7 (.int .i64), .v 8 (.str), .v 9 (.str)]⟩
def c34_6 : Cut := ⟨2003963, [.v 0 (.sl (.st 0)), .v 4 (.str), .v 5 (.int .i64), .box 6 6 (.st 0) 0 [], .v 7 (.int .i64), .v 8 (.str), .v 10 (.bool)]⟩
def c34_7 : Cut := ⟨8015854, [.v 0 (.sl (.st 0)), .v 4 (.str), .v 5 (.int .i64), .box 6 6 (.st 0) 0 [], .v 7 (.int .i64), .v 8 (.str)]⟩
def c34_8 : Cut := ⟨8015855, [.v 0 (.sl (.st 0)), .v 4 (.str), .v 5 (.int .i64), .box 6 6 (.st 0) 0 [], .v 7 (.int .i64), .v 8 (.str), .v 10 (.bool)]⟩
noncomputable def fd34 : FD := ⟨34, bodyF Try.f34, Try.f34.results.toList, Try.f34.ntmps, [.val], [.v (.sl (.st 0))], [.v (.str), .v (.int .i64)], 2, [c34_0, c34_1, c34_2, c34_3, c34_4, c34_5, c34_6, c34_7, c34_8], 5000, none⟩
noncomputable def h34 : List (En D) := [E36, E67, E83, E84]
noncomputable def G34 : YR D [.v (.sl (.st 0))] → Option (YR D [.v (.str), .v (.int .i64)]) := sealF (Gof D fd34 (tabH D h34))
noncomputable def E34 : En D := en_ fd34 G34
noncomputable def F34 (x0 : List S47) : Option (ByteArray × Int) := G34 (x0)
noncomputable def L34 : LL D (YR D fd34.ts) := sealF (LiF D fd34 (tabH D h34))
noncomputable def L34_0 (v0 : List S47) (v4 : ByteArray) (v5 : Int) : Option (ByteArray × Int) := L34 c34_0 (v0, v4, v5, ())
noncomputable def L34_1 (v0 : List S47) (v4 : ByteArray) (v5 : Int) (v6 : S47) (v7 : Int) : Option (ByteArray × Int) := L34 c34_1 (v0, v4, v5, v6, v7, ())
noncomputable def L34_2 (v0 : List S47) (v4 : ByteArray) (v5 : Int) (v6 : S47) (v7 : Int) (v8 : ByteArray) : Option (ByteArray × Int) := L34 c34_2 (v0, v4, v5, v6, v7, v8, ())
noncomputable def L34_3 (v0 : List S47) (v4 : ByteArray) (v5 : Int) (v6 : S47) (v7 : Int) : Option (ByteArray × Int) := L34 c34_3 (v0, v4, v5, v6, v7, ())
noncomputable def L34_4 (v0 : List S47) (v4 : ByteArray) (v5 : Int) (v6 : S47) (v7 : Int) (v8 : ByteArray) (v10 : Bool) : Option (ByteArray × Int) := L34 c34_4 (v0, v4, v5, v6, v7, v8, v10, ())
noncomputable def L34_5 (v0 : List S47) (v4 : ByteArray) (v5 : Int) (v6 : S47) (v7 : Int) (v8 : ByteArray) (v9 : ByteArray) : Option (ByteArray × Int) := L34 c34_5 (v0, v4, v5, v6, v7, v8, v9, ())
noncomputable def L34_6 (v0 : List S47) (v4 : ByteArray) (v5 : Int) (v6 : S47) (v7 : Int) (v8 : ByteArray) (v10 : Bool) : Option (ByteArray × Int) := L34 c34_6 (v0, v4, v5, v6, v7, v8, v10, ())
noncomputable def L34_7 (v0 : List S47) (v4 : ByteArray) (v5 : Int) (v6 : S47) (v7 : Int) (v8 : ByteArray) : Option (ByteArray × Int) := L34 c34_7 (v0, v4, v5, v6, v7, v8, ())
noncomputable def L34_8 (v0 : List S47) (v4 : ByteArray) (v5 : Int) (v6 : S47) (v7 : Int) (v8 : ByteArray) (v10 : Bool) : Option (ByteArray × Int) := L34 c34_8 (v0, v4, v5, v6, v7, v8, v10, ())
theorem E34_ok : FnOk D PP E34 := ok_ fd34 (l := h34) Try.func34 (.cons E36_ok (.cons E67_ok (.cons E83_ok (.cons E84_ok .nil))))
/-- pochoirref14.Same -/
def c38_0 : Cut := ⟨116, [.v 0 (.sl (.st 0)), .v 1 (.sl (.st 0)), .v 5 (.int .i64)]⟩
noncomputable def fd38 : FD := ⟨38, bodyF Try.f38, Try.f38.results.toList, Try.f38.ntmps, [.val, .val], [.v (.sl (.st 0)), .v (.sl (.st 0))], [.v (.bool)], 1, [c38_0], 5000, none⟩
noncomputable def h38 : List (En D) := []
noncomputable def G38 : YR D [.v (.sl (.st 0)), .v (.sl (.st 0))] → Option (YR D [.v (.bool)]) := sealF (Gof D fd38 (tabH D h38))
noncomputable def E38 : En D := en_ fd38 G38
noncomputable def F38 (x0 : List S47) (x1 : List S47) : Option (Bool) := G38 (x0, x1)
noncomputable def L38 : LL D (YR D fd38.ts) := sealF (LiF D fd38 (tabH D h38))
noncomputable def L38_0 (v0 : List S47) (v1 : List S47) (v5 : Int) : Option (Bool) := L38 c38_0 (v0, v1, v5, ())
theorem E38_ok : FnOk D PP E38 := ok_ fd38 (l := h38) Try.func38 (.nil)
/-- pochoirlaw14.CompBack -/
def c8_0 : Cut := ⟨127, [.v 0 (.sl (.st 0)), .v 5 (.str), .v 8 (.int .i64)]⟩
noncomputable def fd8 : FD := ⟨8, bodyF Try.f8, Try.f8.results.toList, Try.f8.ntmps, [.val, .val], [.v (.sl (.st 0)), .v (.int .i64)], [.v (.bool)], 1, [c8_0], 5000, none⟩
noncomputable def h8 : List (En D) := [E32, E33, E34, E35, E36, E37, E38, E39]
noncomputable def G8 : YR D [.v (.sl (.st 0)), .v (.int .i64)] → Option (YR D [.v (.bool)]) := sealF (Gof D fd8 (tabH D h8))
noncomputable def E8 : En D := en_ fd8 G8
noncomputable def F8 (x0 : List S47) (x1 : Int) : Option (Bool) := G8 (x0, x1)
noncomputable def L8 : LL D (YR D fd8.ts) := sealF (LiF D fd8 (tabH D h8))
noncomputable def L8_0 (v0 : List S47) (v5 : ByteArray) (v8 : Int) : Option (Bool) := L8 c8_0 (v0, v5, v8, ())
theorem E8_ok : FnOk D PP E8 := ok_ fd8 (l := h8) Try.func8 (.cons E32_ok (.cons E33_ok (.cons E34_ok (.cons E35_ok (.cons E36_ok (.cons E37_ok (.cons E38_ok (.cons E39_ok .nil))))))))
/-- pochoirref14.Is -/
noncomputable def fd41 : FD := ⟨41, bodyF Try.f41, Try.f41.results.toList, Try.f41.ntmps, [.val], [.v (.str)], [.v (.bool)], 1, [], 5000, none⟩
noncomputable def h41 : List (En D) := []
noncomputable def G41 : YR D [.v (.str)] → Option (YR D [.v (.bool)]) := sealF (Gof D fd41 (tabH D h41))
noncomputable def E41 : En D := en_ fd41 G41
noncomputable def F41 (x0 : ByteArray) : Option (Bool) := G41 (x0)
theorem E41_ok : FnOk D PP E41 := ok_ fd41 (l := h41) Try.func41 (.nil)
/-- pochoirref07.Cut -/
def c125_0 : Cut := ⟨7, [.v 0 (.str), .v 1 (.int .i64), .v 2 (.int .i64)]⟩
noncomputable def fd125 : FD := ⟨125, bodyF Try.f125, Try.f125.results.toList, Try.f125.ntmps, [.val, .val, .val], [.v (.str), .v (.int .i64), .v (.int .i64)], [.v (.str), .v (.int .i64)], 2, [c125_0], 5000, none⟩
noncomputable def h125 : List (En D) := []
noncomputable def G125 : YR D [.v (.str), .v (.int .i64), .v (.int .i64)] → Option (YR D [.v (.str), .v (.int .i64)]) := sealF (Gof D fd125 (tabH D h125))
noncomputable def E125 : En D := en_ fd125 G125
noncomputable def F125 (x0 : ByteArray) (x1 : Int) (x2 : Int) : Option (ByteArray × Int) := G125 (x0, x1, x2)
noncomputable def L125 : LL D (YR D fd125.ts) := sealF (LiF D fd125 (tabH D h125))
noncomputable def L125_0 (v0 : ByteArray) (v1 : Int) (v2 : Int) : Option (ByteArray × Int) := L125 c125_0 (v0, v1, v2, ())
theorem E125_ok : FnOk D PP E125 := ok_ fd125 (l := h125) Try.func125 (.nil)
/-- (*pochoirref07.Reader).Take -/
def c76_0 : Cut := ⟨15, [.box 0 0 (.st 2) 0 [], .v 1 (.int .i64), .v 5 (.str)]⟩
noncomputable def fd76 : FD := ⟨76, bodyF Try.f76, Try.f76.results.toList, Try.f76.ntmps, [.ref, .val], [.v (.st 2), .v (.int .i64)], [.v (.str), .v (.st 2)], 1, [c76_0], 5000, none⟩
noncomputable def h76 : List (En D) := [E125]
noncomputable def G76 : YR D [.v (.st 2), .v (.int .i64)] → Option (YR D [.v (.str), .v (.st 2)]) := sealF (Gof D fd76 (tabH D h76))
noncomputable def E76 : En D := en_ fd76 G76
noncomputable def F76 (x0 : S139) (x1 : Int) : Option (ByteArray × S139) := G76 (x0, x1)
noncomputable def L76 : LL D (YR D fd76.ts) := sealF (LiF D fd76 (tabH D h76))
noncomputable def L76_0 (v0 : S139) (v1 : Int) (v5 : ByteArray) : Option (ByteArray × S139) := L76 c76_0 (v0, v1, v5, ())
theorem E76_ok : FnOk D PP E76 := ok_ fd76 (l := h76) Try.func76 (.cons E125_ok .nil)
/-- pochoirref07.number -/
def c126_0 : Cut := ⟨116, [.v 0 (.str), .v 3 (.int .u32), .v 4 (.int .i64)]⟩
noncomputable def fd126 : FD := ⟨126, bodyF Try.f126, Try.f126.results.toList, Try.f126.ntmps, [.val], [.v (.str)], [.v (.int .u32)], 1, [c126_0], 5000, none⟩
noncomputable def h126 : List (En D) := []
noncomputable def G126 : YR D [.v (.str)] → Option (YR D [.v (.int .u32)]) := sealF (Gof D fd126 (tabH D h126))
noncomputable def E126 : En D := en_ fd126 G126
noncomputable def F126 (x0 : ByteArray) : Option (Int) := G126 (x0)
noncomputable def L126 : LL D (YR D fd126.ts) := sealF (LiF D fd126 (tabH D h126))
noncomputable def L126_0 (v0 : ByteArray) (v3 : Int) (v4 : Int) : Option (Int) := L126 c126_0 (v0, v3, v4, ())
theorem E126_ok : FnOk D PP E126 := ok_ fd126 (l := h126) Try.func126 (.nil)
/-- (*pochoirref07.Reader).Num -/
noncomputable def fd77 : FD := ⟨77, bodyF Try.f77, Try.f77.results.toList, Try.f77.ntmps, [.ref, .val], [.v (.st 2), .v (.int .i64)], [.v (.int .u32), .v (.st 2)], 1, [], 5000, none⟩
noncomputable def h77 : List (En D) := [E76, E126]
noncomputable def G77 : YR D [.v (.st 2), .v (.int .i64)] → Option (YR D [.v (.int .u32), .v (.st 2)]) := sealF (Gof D fd77 (tabH D h77))
noncomputable def E77 : En D := en_ fd77 G77
noncomputable def F77 (x0 : S139) (x1 : Int) : Option (Int × S139) := G77 (x0, x1)
theorem E77_ok : FnOk D PP E77 := ok_ fd77 (l := h77) Try.func77 (.cons E76_ok (.cons E126_ok .nil))
/-- (*pochoirref07.Reader).I16 -/
noncomputable def fd75 : FD := ⟨75, bodyF Try.f75, Try.f75.results.toList, Try.f75.ntmps, [.ref], [.v (.st 2)], [.v (.int .i64), .v (.st 2)], 1, [], 5000, none⟩
noncomputable def h75 : List (En D) := [E77]
noncomputable def G75 : YR D [.v (.st 2)] → Option (YR D [.v (.int .i64), .v (.st 2)]) := sealF (Gof D fd75 (tabH D h75))
noncomputable def E75 : En D := en_ fd75 G75
noncomputable def F75 (x0 : S139) : Option (Int × S139) := G75 (x0)
theorem E75_ok : FnOk D PP E75 := ok_ fd75 (l := h75) Try.func75 (.cons E77_ok .nil)
/-- pochoirref14.byte1 -/
noncomputable def fd140 : FD := ⟨140, bodyF Try.f140, Try.f140.results.toList, Try.f140.ntmps, [.ref], [.v (.st 2)], [.v (.int .i64), .v (.st 2)], 1, [], 5000, none⟩
noncomputable def h140 : List (En D) := [E77]
noncomputable def G140 : YR D [.v (.st 2)] → Option (YR D [.v (.int .i64), .v (.st 2)]) := sealF (Gof D fd140 (tabH D h140))
noncomputable def E140 : En D := en_ fd140 G140
noncomputable def F140 (x0 : S139) : Option (Int × S139) := G140 (x0)
theorem E140_ok : FnOk D PP E140 := ok_ fd140 (l := h140) Try.func140 (.cons E77_ok .nil)
/-- pochoirref14.part -/
def c89_0 : Cut := ⟨127, [.box 0 0 (.st 2) 0 [], .box 4 4 (.st 0) 0 [], .v 7 (.int .u32), .v 8 (.int .i64)]⟩
def c89_1 : Cut := ⟨511, [.box 0 0 (.st 2) 0 [], .box 4 4 (.st 0) 0 [], .v 7 (.int .u32), .box 10 10 (.st 0) 0 []]⟩
def c89_2 : Cut := ⟨1023, [.box 0 0 (.st 2) 0 [], .box 4 4 (.st 0) 0 [], .v 7 (.int .u32), .box 10 10 (.st 0) 0 []]⟩
def c89_3 : Cut := ⟨2047, [.box 0 0 (.st 2) 0 [], .box 4 4 (.st 0) 0 [], .v 7 (.int .u32), .box 10 10 (.st 0) 0 []]⟩
def c89_4 : Cut := ⟨4095, [.box 0 0 (.st 2) 0 [], .box 4 4 (.st 0) 0 [], .v 7 (.int .u32), .box 10 10 (.st 0) 0 []]⟩
noncomputable def fd89 : FD := ⟨89, bodyF Try.f89, Try.f89.results.toList, Try.f89.ntmps, [.ref, .val], [.v (.st 2), .v (.int .i64)], [.v (.st 0), .v (.bool), .v (.int .i64), .v (.st 2)], 3, [c89_0, c89_1, c89_2, c89_3, c89_4], 5000, none⟩
noncomputable def h89 : List (En D) := [E75, E77, E140]
noncomputable def G89 : YR D [.v (.st 2), .v (.int .i64)] → Option (YR D [.v (.st 0), .v (.bool), .v (.int .i64), .v (.st 2)]) := sealF (Gof D fd89 (tabH D h89))
noncomputable def E89 : En D := en_ fd89 G89
noncomputable def F89 (x0 : S139) (x1 : Int) : Option (S47 × Bool × Int × S139) := G89 (x0, x1)
noncomputable def L89 : LL D (YR D fd89.ts) := sealF (LiF D fd89 (tabH D h89))
noncomputable def L89_0 (v0 : S139) (v4 : S47) (v7 : Int) (v8 : Int) : Option (S47 × Bool × Int × S139) := L89 c89_0 (v0, v4, v7, v8, ())
noncomputable def L89_1 (v0 : S139) (v4 : S47) (v7 : Int) (v10 : S47) : Option (S47 × Bool × Int × S139) := L89 c89_1 (v0, v4, v7, v10, ())
noncomputable def L89_2 (v0 : S139) (v4 : S47) (v7 : Int) (v10 : S47) : Option (S47 × Bool × Int × S139) := L89 c89_2 (v0, v4, v7, v10, ())
noncomputable def L89_3 (v0 : S139) (v4 : S47) (v7 : Int) (v10 : S47) : Option (S47 × Bool × Int × S139) := L89 c89_3 (v0, v4, v7, v10, ())
noncomputable def L89_4 (v0 : S139) (v4 : S47) (v7 : Int) (v10 : S47) : Option (S47 × Bool × Int × S139) := L89 c89_4 (v0, v4, v7, v10, ())
theorem E89_ok : FnOk D PP E89 := ok_ fd89 (l := h89) Try.func89 (.cons E75_ok (.cons E77_ok (.cons E140_ok .nil)))
/-- pochoirref14.Parse -/
def c40_0 : Cut := ⟨7, [.v 0 (.str), .v 1 (.int .i64)]⟩
def c40_1 : Cut := ⟨2036, [.v 1 (.int .i64), .box 6 26 (.st 2) 0 [], .own 7 (.st 0), .v 8 (.bool)]⟩
noncomputable def fd40 : FD := ⟨40, bodyF Try.f40, Try.f40.results.toList, Try.f40.ntmps, [.val, .val], [.v (.str), .v (.int .i64)], [.v (.sl (.st 0)), .v (.int .i64)], 2, [c40_0, c40_1], 5000, none⟩
noncomputable def h40 : List (En D) := [E41, E89]
noncomputable def G40 : YR D [.v (.str), .v (.int .i64)] → Option (YR D [.v (.sl (.st 0)), .v (.int .i64)]) := sealF (Gof D fd40 (tabH D h40))
noncomputable def E40 : En D := en_ fd40 G40
noncomputable def F40 (x0 : ByteArray) (x1 : Int) : Option (List S47 × Int) := G40 (x0, x1)
noncomputable def L40 : LL D (YR D fd40.ts) := sealF (LiF D fd40 (tabH D h40))
noncomputable def L40_0 (v0 : ByteArray) (v1 : Int) : Option (List S47 × Int) := L40 c40_0 (v0, v1, ())
noncomputable def L40_1 (v1 : Int) (v6 : S139) (v7 : List S47) (v8 : Bool) : Option (List S47 × Int) := L40 c40_1 (v1, v6, v7, v8, ())
theorem E40_ok : FnOk D PP E40 := ok_ fd40 (l := h40) Try.func40 (.cons E41_ok (.cons E89_ok .nil))
/-- pochoirlaw14.CompAny -/
noncomputable def fd9 : FD := ⟨9, bodyF Try.f9, Try.f9.results.toList, Try.f9.ntmps, [.val, .val], [.v (.str), .v (.int .i64)], [.v (.bool)], 1, [], 5000, none⟩
noncomputable def h9 : List (En D) := [E32, E35, E37, E38, E39, E40, E41]
noncomputable def G9 : YR D [.v (.str), .v (.int .i64)] → Option (YR D [.v (.bool)]) := sealF (Gof D fd9 (tabH D h9))
noncomputable def E9 : En D := en_ fd9 G9
noncomputable def F9 (x0 : ByteArray) (x1 : Int) : Option (Bool) := G9 (x0, x1)
theorem E9_ok : FnOk D PP E9 := ok_ fd9 (l := h9) Try.func9 (.cons E32_ok (.cons E35_ok (.cons E37_ok (.cons E38_ok (.cons E39_ok (.cons E40_ok (.cons E41_ok .nil)))))))
/-- pochoirref14.Unit -/
noncomputable def fd93 : FD := ⟨93, bodyF Try.f93, Try.f93.results.toList, Try.f93.ntmps, [.val], [.v (.int .i64)], [.v (.bool)], 1, [], 5000, none⟩
noncomputable def h93 : List (En D) := []
noncomputable def G93 : YR D [.v (.int .i64)] → Option (YR D [.v (.bool)]) := sealF (Gof D fd93 (tabH D h93))
noncomputable def E93 : En D := en_ fd93 G93
noncomputable def F93 (x0 : Int) : Option (Bool) := G93 (x0)
theorem E93_ok : FnOk D PP E93 := ok_ fd93 (l := h93) Try.func93 (.nil)
/-- pochoirref14.round -/
noncomputable def fd94 : FD := ⟨94, bodyF Try.f94, Try.f94.results.toList, Try.f94.ntmps, [.val], [.v (.int .i64)], [.v (.int .i64)], 1, [], 5000, none⟩
noncomputable def h94 : List (En D) := []
noncomputable def G94 : YR D [.v (.int .i64)] → Option (YR D [.v (.int .i64)]) := sealF (Gof D fd94 (tabH D h94))
noncomputable def E94 : En D := en_ fd94 G94
noncomputable def F94 (x0 : Int) : Option (Int) := G94 (x0)
theorem E94_ok : FnOk D PP E94 := ok_ fd94 (l := h94) Try.func94 (.nil)
/-- pochoirref14.Move -/
def c43_0 : Cut := ⟨7, [.v 1 (.int .i64), .v 2 (.int .i64), .box 3 3 (.st 0) 0 []]⟩
noncomputable def fd43 : FD := ⟨43, bodyF Try.f43, Try.f43.results.toList, Try.f43.ntmps, [.val, .val, .val], [.v (.st 0), .v (.int .i64), .v (.int .i64)], [.v (.int .i64), .v (.int .i64), .v (.int .i64)], 3, [c43_0], 5000, none⟩
noncomputable def h43 : List (En D) := [E86, E93, E94]
noncomputable def G43 : YR D [.v (.st 0), .v (.int .i64), .v (.int .i64)] → Option (YR D [.v (.int .i64), .v (.int .i64), .v (.int .i64)]) := sealF (Gof D fd43 (tabH D h43))
noncomputable def E43 : En D := en_ fd43 G43
noncomputable def F43 (x0 : S47) (x1 : Int) (x2 : Int) : Option (Int × Int × Int) := G43 (x0, x1, x2)
noncomputable def L43 : LL D (YR D fd43.ts) := sealF (LiF D fd43 (tabH D h43))
noncomputable def L43_0 (v1 : Int) (v2 : Int) (v3 : S47) : Option (Int × Int × Int) := L43 c43_0 (v1, v2, v3, ())
theorem E43_ok : FnOk D PP E43 := ok_ fd43 (l := h43) Try.func43 (.cons E86_ok (.cons E93_ok (.cons E94_ok .nil)))
/-- pochoirlaw14.CompMoves -/
def c10_0 : Cut := ⟨63, [.v 1 (.int .i64), .v 2 (.int .i64), .box 3 3 (.st 0) 0 []]⟩
noncomputable def fd10 : FD := ⟨10, bodyF Try.f10, Try.f10.results.toList, Try.f10.ntmps, [.val, .val, .val], [.v (.st 0), .v (.int .i64), .v (.int .i64)], [.v (.bool)], 1, [c10_0], 5000, none⟩
noncomputable def h10 : List (En D) := [E32, E42, E43]
noncomputable def G10 : YR D [.v (.st 0), .v (.int .i64), .v (.int .i64)] → Option (YR D [.v (.bool)]) := sealF (Gof D fd10 (tabH D h10))
noncomputable def E10 : En D := en_ fd10 G10
noncomputable def F10 (x0 : S47) (x1 : Int) (x2 : Int) : Option (Bool) := G10 (x0, x1, x2)
noncomputable def L10 : LL D (YR D fd10.ts) := sealF (LiF D fd10 (tabH D h10))
noncomputable def L10_0 (v1 : Int) (v2 : Int) (v3 : S47) : Option (Bool) := L10 c10_0 (v1, v2, v3, ())
theorem E10_ok : FnOk D PP E10 := ok_ fd10 (l := h10) Try.func10 (.cons E32_ok (.cons E42_ok (.cons E43_ok .nil)))
end Go.Proofs.Ytalghbndblgndaa.Ev
