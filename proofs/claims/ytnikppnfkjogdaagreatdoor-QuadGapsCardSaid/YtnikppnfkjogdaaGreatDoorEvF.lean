/- Printed by a program of this claim: the functions, as they are told. -/
import Derived.Test.YtnikppnfkjogdaaGreatDoorEvD
import Derived.Test.YtnikppnfkjogdaaGreatDoorEvAe
import Derived.Test.YtnikppnfkjogdaaGreatDoorEvAd
import Derived.Test.YtnikppnfkjogdaaGreatDoorEvY
namespace Go.Proofs.YtnikppnfkjogdaaGreatDoor.Ev
open Go
set_option linter.unusedVariables false
noncomputable def bodyF (f : Func) : Code := match f.body with | some c => c | none => .skip
noncomputable def en_ (f : FD) (G : YR D f.as → Option (YR D f.ts)) : En D := ⟨f.g, f.pm, f.as, f.ts, f.nr, G⟩
theorem ok_ (f : FD) {l : List (En D)} {fn : Func} (hf : PP.funcs[f.g]? = some fn) (ha : AllOk D PP l) (hp : pmOk D l = true := by kernel_rfl) (hb : fn.body = some f.body := by kernel_rfl) (hr : fn.results.toList = f.rs := by kernel_rfl) (hn : fn.ntmps = f.nt := by kernel_rfl)
  (hm : (fn.name == "runtime.NumGoroutine") = false := by kernel_rfl) (hok : fdOk f = true := by kernel_rfl) (hw : xmOf D f.g = f.xm := by kernel_rfl) : FnOk D PP ⟨f.g, f.pm, f.as, f.ts, f.nr, sealF (Gof D f (tabH D l))⟩ :=
 fdS_ok lw f hp ha hf hb hr hn (enters_of hf hm hb) hok hw
/-- plane.May -/
noncomputable def fd59 : FD := ⟨59, bodyF Tryz.f59, Tryz.f59.results.toList, Tryz.f59.ntmps, [.val], [.v (.st 0)], [.v (.bool)], 1, [], 5000, none⟩
noncomputable def h59 : List (En D) := []
noncomputable def G59 : YR D [.v (.st 0)] → Option (YR D [.v (.bool)]) := sealF (Gof D fd59 (tabH D h59))
noncomputable def E59 : En D := en_ fd59 G59
noncomputable def F59 (x0 : S24) : Option Bool := G59 (x0)
theorem E59_ok : FnOk D PP E59 := ok_ fd59 (l := h59) Tryz.func59 (.nil)
/-- plane.asked -/
def c148_0 : Cut := ⟨52, [.v 5 (.sl (.st 0)), .v 6 (.int .i64), .v 7 (.int .i64)]⟩
noncomputable def fd148 : FD := ⟨148, bodyF Tryz.f148, Tryz.f148.results.toList, Tryz.f148.ntmps, [.val], [.v (.sl (.st 0))], [.v (.int .i64)], 1, [c148_0], 5000, none⟩
noncomputable def h148 : List (En D) := [E59]
noncomputable def G148 : YR D [.v (.sl (.st 0))] → Option (YR D [.v (.int .i64)]) := sealF (Gof D fd148 (tabH D h148))
noncomputable def E148 : En D := en_ fd148 G148
noncomputable def F148 (x0 : List S24) : Option Int := G148 (x0)
noncomputable def L148 : LL D (YR D fd148.ts) := sealF (LiF D fd148 (tabH D h148))
noncomputable def L148_0 (v5 : List S24) (v6 v7 : Int) : Option Int := L148 c148_0 (v5, v6, v7, ())
theorem E148_ok : FnOk D PP E148 := ok_ fd148 (l := h148) Tryz.func148 (.cons E59_ok .nil)
/-- plane.cross -/
noncomputable def fd150 : FD := ⟨150, bodyF Tryz.f150, Tryz.f150.results.toList, Tryz.f150.ntmps, [.val, .val, .val], [.v (.st 0), .v (.st 0), .v (.st 0)], [.v (.int .i64)], 1, [], 5000, none⟩
noncomputable def h150 : List (En D) := []
noncomputable def G150 : YR D [.v (.st 0), .v (.st 0), .v (.st 0)] → Option (YR D [.v (.int .i64)]) := sealF (Gof D fd150 (tabH D h150))
noncomputable def E150 : En D := en_ fd150 G150
noncomputable def F150 (x0 x1 x2 : S24) : Option Int := G150 (x0, x1, x2)
theorem E150_ok : FnOk D PP E150 := ok_ fd150 (l := h150) Tryz.func150 (.nil)
/-- plane.dot -/
noncomputable def fd149 : FD := ⟨149, bodyF Tryz.f149, Tryz.f149.results.toList, Tryz.f149.ntmps, [.val, .val, .val], [.v (.st 0), .v (.st 0), .v (.st 0)], [.v (.int .i64)], 1, [], 5000, none⟩
noncomputable def h149 : List (En D) := []
noncomputable def G149 : YR D [.v (.st 0), .v (.st 0), .v (.st 0)] → Option (YR D [.v (.int .i64)]) := sealF (Gof D fd149 (tabH D h149))
noncomputable def E149 : En D := en_ fd149 G149
noncomputable def F149 (x0 x1 x2 : S24) : Option Int := G149 (x0, x1, x2)
theorem E149_ok : FnOk D PP E149 := ok_ fd149 (l := h149) Tryz.func149 (.nil)
/-- big.trimmed -/
def c205_0 : Cut := ⟨56, [.v 0 (.sl (.int .u32)), .v 3 (.int .i64)]⟩
noncomputable def fd205 : FD := ⟨205, bodyF Tryz.f205, Tryz.f205.results.toList, Tryz.f205.ntmps, [.val], [.v (.sl (.int .u32))], [.v (.sl (.int .u32))], 1, [c205_0], 5000, none⟩
noncomputable def h205 : List (En D) := []
noncomputable def G205 : YR D [.v (.sl (.int .u32))] → Option (YR D [.v (.sl (.int .u32))]) := sealF (Gof D fd205 (tabH D h205))
noncomputable def E205 : En D := en_ fd205 G205
noncomputable def F205 (x0 : List Int) : Option (List Int) := G205 (x0)
noncomputable def L205 : LL D (YR D fd205.ts) := sealF (LiF D fd205 (tabH D h205))
noncomputable def L205_0 (v0 : List Int) (v3 : Int) : Option (List Int) := L205 c205_0 (v0, v3, ())
theorem E205_ok : FnOk D PP E205 := ok_ fd205 (l := h205) Tryz.func205 (.nil)
/-- big.form -/
noncomputable def fd156 : FD := ⟨156, bodyF Tryz.f156, Tryz.f156.results.toList, Tryz.f156.ntmps, [.val, .val], [.v (.bool), .v (.sl (.int .u32))], [.v (.st 7)], 1, [], 5000, none⟩
noncomputable def h156 : List (En D) := [E205]
noncomputable def G156 : YR D [.v (.bool), .v (.sl (.int .u32))] → Option (YR D [.v (.st 7)]) := sealF (Gof D fd156 (tabH D h156))
noncomputable def E156 : En D := en_ fd156 G156
noncomputable def F156 (x0 : Bool) (x1 : List Int) : Option (S77) := G156 (x0, x1)
theorem E156_ok : FnOk D PP E156 := ok_ fd156 (l := h156) Tryz.func156 (.cons E205_ok .nil)
/-- big.Of -/
def c155_0 : Cut := ⟨15, [.v 0 (.int .i64), .box 2 2 (.st 7) 0 [], .v 3 (.int .u64)]⟩
noncomputable def fd155 : FD := ⟨155, bodyF Tryz.f155, Tryz.f155.results.toList, Tryz.f155.ntmps, [.val], [.v (.int .i64)], [.v (.st 7)], 1, [c155_0], 5000, none⟩
noncomputable def h155 : List (En D) := [E156]
noncomputable def G155 : YR D [.v (.int .i64)] → Option (YR D [.v (.st 7)]) := sealF (Gof D fd155 (tabH D h155))
noncomputable def E155 : En D := en_ fd155 G155
noncomputable def F155 (x0 : Int) : Option (S77) := G155 (x0)
noncomputable def L155 : LL D (YR D fd155.ts) := sealF (LiF D fd155 (tabH D h155))
noncomputable def L155_0 (v0 : Int) (v2 : S77) (v3 : Int) : Option (S77) := L155 c155_0 (v0, v2, v3, ())
theorem E155_ok : FnOk D PP E155 := ok_ fd155 (l := h155) Tryz.func155 (.cons E156_ok .nil)
/-- big.Sign -/
noncomputable def fd211 : FD := ⟨211, bodyF Tryz.f211, Tryz.f211.results.toList, Tryz.f211.ntmps, [.val], [.v (.st 7)], [.v (.int .i64)], 1, [], 5000, none⟩
noncomputable def h211 : List (En D) := [E205]
noncomputable def G211 : YR D [.v (.st 7)] → Option (YR D [.v (.int .i64)]) := sealF (Gof D fd211 (tabH D h211))
noncomputable def E211 : En D := en_ fd211 G211
noncomputable def F211 (x0 : S77) : Option Int := G211 (x0)
theorem E211_ok : FnOk D PP E211 := ok_ fd211 (l := h211) Tryz.func211 (.cons E205_ok .nil)
/-- poly.trimmed -/
def c160_0 : Cut := ⟨56, [.v 0 (.sl (.st 7)), .v 3 (.int .i64)]⟩
noncomputable def fd160 : FD := ⟨160, bodyF Tryz.f160, Tryz.f160.results.toList, Tryz.f160.ntmps, [.val], [.v (.sl (.st 7))], [.v (.sl (.st 7))], 1, [c160_0], 5000, none⟩
noncomputable def h160 : List (En D) := [E211]
noncomputable def G160 : YR D [.v (.sl (.st 7))] → Option (YR D [.v (.sl (.st 7))]) := sealF (Gof D fd160 (tabH D h160))
noncomputable def E160 : En D := en_ fd160 G160
noncomputable def F160 (x0 : List S77) : Option (List S77) := G160 (x0)
noncomputable def L160 : LL D (YR D fd160.ts) := sealF (LiF D fd160 (tabH D h160))
noncomputable def L160_0 (v0 : List S77) (v3 : Int) : Option (List S77) := L160 c160_0 (v0, v3, ())
theorem E160_ok : FnOk D PP E160 := ok_ fd160 (l := h160) Tryz.func160 (.cons E211_ok .nil)
/-- poly.Of -/
def c161_0 : Cut := ⟨116, [.own 3 (.st 7), .v 6 (.sl (.int .i64)), .v 7 (.int .i64), .v 8 (.int .i64)]⟩
noncomputable def fd161 : FD := ⟨161, bodyF Tryz.f161, Tryz.f161.results.toList, Tryz.f161.ntmps, [.val], [.v (.sl (.int .i64))], [.v (.sl (.st 7))], 1, [c161_0], 5000, none⟩
noncomputable def h161 : List (En D) := [E155, E160]
noncomputable def G161 : YR D [.v (.sl (.int .i64))] → Option (YR D [.v (.sl (.st 7))]) := sealF (Gof D fd161 (tabH D h161))
noncomputable def E161 : En D := en_ fd161 G161
noncomputable def F161 (x0 : List Int) : Option (List S77) := G161 (x0)
noncomputable def L161 : LL D (YR D fd161.ts) := sealF (LiF D fd161 (tabH D h161))
noncomputable def L161_0 (v3 : List S77) (v6 : List Int) (v7 v8 : Int) : Option (List S77) := L161 c161_0 (v3, v6, v7, v8, ())
theorem E161_ok : FnOk D PP E161 := ok_ fd161 (l := h161) Tryz.func161 (.cons E155_ok (.cons E160_ok .nil))
/-- big.Mul -/
def c154_0 : Cut := ⟨116, [.box 2 2 (.st 7) 0 [], .box 3 3 (.st 7) 0 [], .box 4 4 (.st 7) 0 [], .own 5 (.int .u32), .v 21 (.sl (.int .u32)), .v 22 (.int .i64), .v 23 (.int .i64)]⟩
def c154_1 : Cut := ⟨119604, [.box 2 2 (.st 7) 0 [], .box 3 3 (.st 7) 0 [], .box 4 4 (.st 7) 0 [], .own 5 (.int .u32), .v 6 (.int .i64), .v 7 (.int .u32), .v 8 (.int .u64), .v 21 (.sl (.int .u32)), .v 22 (.int .i64), .v 23 (.int .i64), .v 29 (.sl (.int .u32)), .v 30 (.int .i64), .v 31 (.int .i64)]⟩
noncomputable def fd154 : FD := ⟨154, bodyF Tryz.f154, Tryz.f154.results.toList, Tryz.f154.ntmps, [.val, .val], [.v (.st 7), .v (.st 7)], [.v (.st 7)], 1, [c154_0, c154_1], 5000, none⟩
noncomputable def h154 : List (En D) := [E156]
noncomputable def G154 : YR D [.v (.st 7), .v (.st 7)] → Option (YR D [.v (.st 7)]) := sealF (Gof D fd154 (tabH D h154))
noncomputable def E154 : En D := en_ fd154 G154
noncomputable def F154 (x0 x1 : S77) : Option (S77) := G154 (x0, x1)
noncomputable def L154 : LL D (YR D fd154.ts) := sealF (LiF D fd154 (tabH D h154))
noncomputable def L154_0 (v2 v3 v4 : S77) (v5 v21 : List Int) (v22 v23 : Int) : Option (S77) := L154 c154_0 (v2, v3, v4, v5, v21, v22, v23, ())
noncomputable def L154_1 (v2 v3 v4 : S77) (v5 : List Int) (v6 v7 v8 : Int) (v21 : List Int) (v22 v23 : Int) (v29 : List Int) (v30 v31 : Int) : Option (S77) := L154 c154_1 (v2, v3, v4, v5, v6, v7, v8, v21, v22, v23, v29, v30, v31, ())
theorem E154_ok : FnOk D PP E154 := ok_ fd154 (l := h154) Tryz.func154 (.cons E156_ok .nil)
/-- big.at -/
noncomputable def fd237 : FD := ⟨237, bodyF Tryz.f237, Tryz.f237.results.toList, Tryz.f237.ntmps, [.val, .val], [.v (.sl (.int .u32)), .v (.int .i64)], [.v (.int .u64)], 1, [], 5000, none⟩
noncomputable def h237 : List (En D) := []
noncomputable def G237 : YR D [.v (.sl (.int .u32)), .v (.int .i64)] → Option (YR D [.v (.int .u64)]) := sealF (Gof D fd237 (tabH D h237))
noncomputable def E237 : En D := en_ fd237 G237
noncomputable def F237 (x0 : List Int) (x1 : Int) : Option Int := G237 (x0, x1)
theorem E237_ok : FnOk D PP E237 := ok_ fd237 (l := h237) Tryz.func237 (.nil)
/-- big.plus -/
def c208_0 : Cut := ⟨500, [.v 0 (.sl (.int .u32)), .v 1 (.sl (.int .u32)), .own 6 (.int .u32), .v 7 (.int .u64), .v 20 (.int .i64), .v 21 (.int .i64)]⟩
noncomputable def fd208 : FD := ⟨208, bodyF Tryz.f208, Tryz.f208.results.toList, Tryz.f208.ntmps, [.val, .val], [.v (.sl (.int .u32)), .v (.sl (.int .u32))], [.v (.sl (.int .u32))], 1, [c208_0], 5000, none⟩
noncomputable def h208 : List (En D) := [E237]
noncomputable def G208 : YR D [.v (.sl (.int .u32)), .v (.sl (.int .u32))] → Option (YR D [.v (.sl (.int .u32))]) := sealF (Gof D fd208 (tabH D h208))
noncomputable def E208 : En D := en_ fd208 G208
noncomputable def F208 (x0 x1 : List Int) : Option (List Int) := G208 (x0, x1)
noncomputable def L208 : LL D (YR D fd208.ts) := sealF (LiF D fd208 (tabH D h208))
noncomputable def L208_0 (v0 v1 v6 : List Int) (v7 v20 v21 : Int) : Option (List Int) := L208 c208_0 (v0, v1, v6, v7, v20, v21, ())
theorem E208_ok : FnOk D PP E208 := ok_ fd208 (l := h208) Tryz.func208 (.cons E237_ok .nil)
/-- cmp.isNaN[int] -/
noncomputable def fd247 : FD := ⟨247, bodyF Tryz.f247, Tryz.f247.results.toList, Tryz.f247.ntmps, [.val], [.v (.int .i64)], [.v (.bool)], 1, [], 5000, none⟩
noncomputable def h247 : List (En D) := []
noncomputable def G247 : YR D [.v (.int .i64)] → Option (YR D [.v (.bool)]) := sealF (Gof D fd247 (tabH D h247))
noncomputable def E247 : En D := en_ fd247 G247
noncomputable def F247 (x0 : Int) : Option Bool := G247 (x0)
theorem E247_ok : FnOk D PP E247 := ok_ fd247 (l := h247) Tryz.func247 (.nil)
/-- cmp.Compare[int] -/
noncomputable def fd238 : FD := ⟨238, bodyF Tryz.f238, Tryz.f238.results.toList, Tryz.f238.ntmps, [.val, .val], [.v (.int .i64), .v (.int .i64)], [.v (.int .i64)], 1, [], 5000, none⟩
noncomputable def h238 : List (En D) := [E247]
noncomputable def G238 : YR D [.v (.int .i64), .v (.int .i64)] → Option (YR D [.v (.int .i64)]) := sealF (Gof D fd238 (tabH D h238))
noncomputable def E238 : En D := en_ fd238 G238
noncomputable def F238 (x0 x1 : Int) : Option Int := G238 (x0, x1)
theorem E238_ok : FnOk D PP E238 := ok_ fd238 (l := h238) Tryz.func238 (.cons E247_ok .nil)
/-- cmp.isNaN[uint32] -/
noncomputable def fd248 : FD := ⟨248, bodyF Tryz.f248, Tryz.f248.results.toList, Tryz.f248.ntmps, [.val], [.v (.int .u32)], [.v (.bool)], 1, [], 5000, none⟩
noncomputable def h248 : List (En D) := []
noncomputable def G248 : YR D [.v (.int .u32)] → Option (YR D [.v (.bool)]) := sealF (Gof D fd248 (tabH D h248))
noncomputable def E248 : En D := en_ fd248 G248
noncomputable def F248 (x0 : Int) : Option Bool := G248 (x0)
theorem E248_ok : FnOk D PP E248 := ok_ fd248 (l := h248) Tryz.func248 (.nil)
/-- cmp.Compare[uint32] -/
noncomputable def fd239 : FD := ⟨239, bodyF Tryz.f239, Tryz.f239.results.toList, Tryz.f239.ntmps, [.val, .val], [.v (.int .u32), .v (.int .u32)], [.v (.int .i64)], 1, [], 5000, none⟩
noncomputable def h239 : List (En D) := [E248]
noncomputable def G239 : YR D [.v (.int .u32), .v (.int .u32)] → Option (YR D [.v (.int .i64)]) := sealF (Gof D fd239 (tabH D h239))
noncomputable def E239 : En D := en_ fd239 G239
noncomputable def F239 (x0 x1 : Int) : Option Int := G239 (x0, x1)
theorem E239_ok : FnOk D PP E239 := ok_ fd239 (l := h239) Tryz.func239 (.cons E248_ok .nil)
/-- big.against -/
def c209_0 : Cut := ⟨116, [.v 0 (.sl (.int .u32)), .v 1 (.sl (.int .u32)), .v 6 (.int .i64)]⟩
noncomputable def fd209 : FD := ⟨209, bodyF Tryz.f209, Tryz.f209.results.toList, Tryz.f209.ntmps, [.val, .val], [.v (.sl (.int .u32)), .v (.sl (.int .u32))], [.v (.int .i64)], 1, [c209_0], 5000, none⟩
noncomputable def h209 : List (En D) := [E238, E239]
noncomputable def G209 : YR D [.v (.sl (.int .u32)), .v (.sl (.int .u32))] → Option (YR D [.v (.int .i64)]) := sealF (Gof D fd209 (tabH D h209))
noncomputable def E209 : En D := en_ fd209 G209
noncomputable def F209 (x0 x1 : List Int) : Option Int := G209 (x0, x1)
noncomputable def L209 : LL D (YR D fd209.ts) := sealF (LiF D fd209 (tabH D h209))
noncomputable def L209_0 (v0 v1 : List Int) (v6 : Int) : Option Int := L209 c209_0 (v0, v1, v6, ())
theorem E209_ok : FnOk D PP E209 := ok_ fd209 (l := h209) Tryz.func209 (.cons E238_ok (.cons E239_ok .nil))
/-- big.minus -/
def c210_0 : Cut := ⟨244, [.v 0 (.sl (.int .u32)), .v 1 (.sl (.int .u32)), .own 5 (.int .u32), .v 6 (.int .u64), .v 13 (.int .i64), .v 14 (.int .i64)]⟩
noncomputable def fd210 : FD := ⟨210, bodyF Tryz.f210, Tryz.f210.results.toList, Tryz.f210.ntmps, [.val, .val], [.v (.sl (.int .u32)), .v (.sl (.int .u32))], [.v (.sl (.int .u32))], 1, [c210_0], 5000, none⟩
noncomputable def h210 : List (En D) := [E237]
noncomputable def G210 : YR D [.v (.sl (.int .u32)), .v (.sl (.int .u32))] → Option (YR D [.v (.sl (.int .u32))]) := sealF (Gof D fd210 (tabH D h210))
noncomputable def E210 : En D := en_ fd210 G210
noncomputable def F210 (x0 x1 : List Int) : Option (List Int) := G210 (x0, x1)
noncomputable def L210 : LL D (YR D fd210.ts) := sealF (LiF D fd210 (tabH D h210))
noncomputable def L210_0 (v0 v1 v5 : List Int) (v6 v13 v14 : Int) : Option (List Int) := L210 c210_0 (v0, v1, v5, v6, v13, v14, ())
theorem E210_ok : FnOk D PP E210 := ok_ fd210 (l := h210) Tryz.func210 (.cons E237_ok .nil)
/-- big.Add -/
noncomputable def fd159 : FD := ⟨159, bodyF Tryz.f159, Tryz.f159.results.toList, Tryz.f159.ntmps, [.val, .val], [.v (.st 7), .v (.st 7)], [.v (.st 7)], 1, [], 5000, none⟩
noncomputable def h159 : List (En D) := [E156, E205, E208, E209, E210]
noncomputable def G159 : YR D [.v (.st 7), .v (.st 7)] → Option (YR D [.v (.st 7)]) := sealF (Gof D fd159 (tabH D h159))
noncomputable def E159 : En D := en_ fd159 G159
noncomputable def F159 (x0 x1 : S77) : Option (S77) := G159 (x0, x1)
theorem E159_ok : FnOk D PP E159 := ok_ fd159 (l := h159) Tryz.func159 (.cons E156_ok (.cons E205_ok (.cons E208_ok (.cons E209_ok (.cons E210_ok .nil)))))
/-- poly.Mul -/
def c98_0 : Cut := ⟨116, [.v 1 (.sl (.st 7)), .own 5 (.st 7), .v 16 (.sl (.st 7)), .v 17 (.int .i64), .v 18 (.int .i64)]⟩
def c98_1 : Cut := ⟨29900, [.v 1 (.sl (.st 7)), .own 5 (.st 7), .v 6 (.int .i64), .box 7 7 (.st 7) 0 [], .v 16 (.sl (.st 7)), .v 17 (.int .i64), .v 18 (.int .i64), .v 23 (.sl (.st 7)), .v 24 (.int .i64), .v 25 (.int .i64)]⟩
noncomputable def fd98 : FD := ⟨98, bodyF Tryz.f98, Tryz.f98.results.toList, Tryz.f98.ntmps, [.val, .val], [.v (.sl (.st 7)), .v (.sl (.st 7))], [.v (.sl (.st 7))], 1, [c98_0, c98_1], 5000, none⟩
noncomputable def h98 : List (En D) := [E154, E159, E160]
noncomputable def G98 : YR D [.v (.sl (.st 7)), .v (.sl (.st 7))] → Option (YR D [.v (.sl (.st 7))]) := sealF (Gof D fd98 (tabH D h98))
noncomputable def E98 : En D := en_ fd98 G98
noncomputable def F98 (x0 x1 : List S77) : Option (List S77) := G98 (x0, x1)
noncomputable def L98 : LL D (YR D fd98.ts) := sealF (LiF D fd98 (tabH D h98))
noncomputable def L98_0 (v1 v5 v16 : List S77) (v17 v18 : Int) : Option (List S77) := L98 c98_0 (v1, v5, v16, v17, v18, ())
noncomputable def L98_1 (v1 v5 : List S77) (v6 : Int) (v7 : S77) (v16 : List S77) (v17 v18 : Int) (v23 : List S77) (v24 v25 : Int) : Option (List S77) := L98 c98_1 (v1, v5, v6, v7, v16, v17, v18, v23, v24, v25, ())
theorem E98_ok : FnOk D PP E98 := ok_ fd98 (l := h98) Tryz.func98 (.cons E154_ok (.cons E159_ok (.cons E160_ok .nil)))
/-- poly.at -/
noncomputable def fd206 : FD := ⟨206, bodyF Tryz.f206, Tryz.f206.results.toList, Tryz.f206.ntmps, [.val, .val], [.v (.sl (.st 7)), .v (.int .i64)], [.v (.st 7)], 1, [], 5000, none⟩
noncomputable def h206 : List (En D) := []
noncomputable def G206 : YR D [.v (.sl (.st 7)), .v (.int .i64)] → Option (YR D [.v (.st 7)]) := sealF (Gof D fd206 (tabH D h206))
noncomputable def E206 : En D := en_ fd206 G206
noncomputable def F206 (x0 : List S77) (x1 : Int) : Option (S77) := G206 (x0, x1)
theorem E206_ok : FnOk D PP E206 := ok_ fd206 (l := h206) Tryz.func206 (.nil)
/-- poly.each(big.Add) -/
def c157159_0 : Cut := ⟨116, [.fn 2 159 [], .v 0 (.sl (.st 7)), .v 1 (.sl (.st 7)), .own 7 (.st 7), .v 13 (.int .i64), .v 14 (.int .i64)]⟩
noncomputable def fd157159 : FD := ⟨157, bodyF Tryz.f157, Tryz.f157.results.toList, Tryz.f157.ntmps, [.val, .val, .val], [.v (.sl (.st 7)), .v (.sl (.st 7)), .fc 159], [.v (.sl (.st 7))], 1, [c157159_0], 5000, none⟩
noncomputable def h157159 : List (En D) := [E159, E160, E206]
noncomputable def G157159 : YR D [.v (.sl (.st 7)), .v (.sl (.st 7)), .fc 159] → Option (YR D [.v (.sl (.st 7))]) := sealF (Gof D fd157159 (tabH D h157159))
noncomputable def E157159 : En D := en_ fd157159 G157159
noncomputable def F157159 (x0 x1 : List S77) (x2 : Unit) : Option (List S77) := G157159 (x0, x1, x2)
noncomputable def L157159 : LL D (YR D fd157159.ts) := sealF (LiF D fd157159 (tabH D h157159))
noncomputable def L157159_0 (v0 v1 v7 : List S77) (v13 v14 : Int) : Option (List S77) := L157159 c157159_0 (v0, v1, v7, v13, v14, ())
theorem E157159_ok : FnOk D PP E157159 := ok_ fd157159 (l := h157159) Tryz.func157 (.cons E159_ok (.cons E160_ok (.cons E206_ok .nil)))
/-- poly.Add -/
noncomputable def fd100 : FD := ⟨100, bodyF Tryz.f100, Tryz.f100.results.toList, Tryz.f100.ntmps, [.val, .val], [.v (.sl (.st 7)), .v (.sl (.st 7))], [.v (.sl (.st 7))], 1, [], 5000, none⟩
noncomputable def h100 : List (En D) := [E157159]
noncomputable def G100 : YR D [.v (.sl (.st 7)), .v (.sl (.st 7))] → Option (YR D [.v (.sl (.st 7))]) := sealF (Gof D fd100 (tabH D h100))
noncomputable def E100 : En D := en_ fd100 G100
noncomputable def F100 (x0 x1 : List S77) : Option (List S77) := G100 (x0, x1)
theorem E100_ok : FnOk D PP E100 := ok_ fd100 (l := h100) Tryz.func100 (.cons E157159_ok .nil)
/-- ratio.size -/
noncomputable def fd79 : FD := ⟨79, bodyF Tryz.f79, Tryz.f79.results.toList, Tryz.f79.ntmps, [.val], [.v (.int .i64)], [.v (.int .u64)], 1, [], 5000, none⟩
noncomputable def h79 : List (En D) := []
noncomputable def G79 : YR D [.v (.int .i64)] → Option (YR D [.v (.int .u64)]) := sealF (Gof D fd79 (tabH D h79))
noncomputable def E79 : En D := en_ fd79 G79
noncomputable def F79 (x0 : Int) : Option Int := G79 (x0)
theorem E79_ok : FnOk D PP E79 := ok_ fd79 (l := h79) Tryz.func79 (.nil)
/-- wide.Of -/
noncomputable def fd78 : FD := ⟨78, bodyF Tryz.f78, Tryz.f78.results.toList, Tryz.f78.ntmps, [.val], [.v (.int .u64)], [.v (.st 9)], 1, [], 5000, none⟩
noncomputable def h78 : List (En D) := []
noncomputable def G78 : YR D [.v (.int .u64)] → Option (YR D [.v (.st 9)]) := sealF (Gof D fd78 (tabH D h78))
noncomputable def E78 : En D := en_ fd78 G78
noncomputable def F78 (x0 : Int) : Option (S102) := G78 (x0)
theorem E78_ok : FnOk D PP E78 := ok_ fd78 (l := h78) Tryz.func78 (.nil)
/-- math/bits.TrailingZeros64 -/
noncomputable def G188 : YR D [.v (.int .u64)] → Option (YR D [.v (.int .i64)]) := sealF fun x => bits_TrailingZeros64 x
noncomputable def E188 : En D := ⟨188, [.val], [.v (.int .u64)], [.v (.int .i64)], 1, G188⟩
noncomputable def F188 (x0 : Int) : Option Int := G188 (x0)
theorem F188_eq (x0 : Int) : F188 x0 = bits_TrailingZeros64 x0 := congrFun (sealF_eq _) (x0)
theorem E188_ok : FnOk D PP E188 := bits_TrailingZeros64_ok
/-- ratio.twos -/
noncomputable def fd129 : FD := ⟨129, bodyF Tryz.f129, Tryz.f129.results.toList, Tryz.f129.ntmps, [.val], [.v (.st 9)], [.v (.int .i64)], 1, [], 5000, none⟩
noncomputable def h129 : List (En D) := [E188]
noncomputable def G129 : YR D [.v (.st 9)] → Option (YR D [.v (.int .i64)]) := sealF (Gof D fd129 (tabH D h129))
noncomputable def E129 : En D := en_ fd129 G129
noncomputable def F129 (x0 : S102) : Option Int := G129 (x0)
theorem E129_ok : FnOk D PP E129 := ok_ fd129 (l := h129) Tryz.func129 (.cons E188_ok .nil)
/-- wide.right -/
noncomputable def fd189 : FD := ⟨189, bodyF Tryz.f189, Tryz.f189.results.toList, Tryz.f189.ntmps, [.val, .val], [.v (.st 9), .v (.int .u64)], [.v (.st 9)], 1, [], 5000, none⟩
noncomputable def h189 : List (En D) := []
noncomputable def G189 : YR D [.v (.st 9), .v (.int .u64)] → Option (YR D [.v (.st 9)]) := sealF (Gof D fd189 (tabH D h189))
noncomputable def E189 : En D := en_ fd189 G189
noncomputable def F189 (x0 : S102) (x1 : Int) : Option (S102) := G189 (x0, x1)
theorem E189_ok : FnOk D PP E189 := ok_ fd189 (l := h189) Tryz.func189 (.nil)
/-- math/bits.Len64 -/
def c229_0 : Cut := ⟨7, [.v 0 (.int .u64), .v 2 (.int .i64)]⟩
def c229_1 : Cut := ⟨15, [.v 0 (.int .u64), .v 2 (.int .i64)]⟩
def c229_2 : Cut := ⟨31, [.v 0 (.int .u64), .v 2 (.int .i64)]⟩
noncomputable def fd229 : FD := ⟨229, bodyF Tryz.f229, Tryz.f229.results.toList, Tryz.f229.ntmps, [.val], [.v (.int .u64)], [.v (.int .i64)], 1, [c229_0, c229_1, c229_2], 5000, none⟩
noncomputable def h229 : List (En D) := []
noncomputable def G229 : YR D [.v (.int .u64)] → Option (YR D [.v (.int .i64)]) := sealF (Gof D fd229 (tabH D h229))
noncomputable def E229 : En D := en_ fd229 G229
noncomputable def F229 (x0 : Int) : Option Int := G229 (x0)
noncomputable def L229 : LL D (YR D fd229.ts) := sealF (LiF D fd229 (tabH D h229))
noncomputable def L229_0 (v0 v2 : Int) : Option Int := L229 c229_0 (v0, v2, ())
noncomputable def L229_1 (v0 v2 : Int) : Option Int := L229 c229_1 (v0, v2, ())
noncomputable def L229_2 (v0 v2 : Int) : Option Int := L229 c229_2 (v0, v2, ())
theorem E229_ok : FnOk D PP E229 := ok_ fd229 (l := h229) Tryz.func229 (.nil)
/-- wide.Bits -/
noncomputable def fd190 : FD := ⟨190, bodyF Tryz.f190, Tryz.f190.results.toList, Tryz.f190.ntmps, [.val], [.v (.st 9)], [.v (.int .i64)], 1, [], 5000, none⟩
noncomputable def h190 : List (En D) := [E229]
noncomputable def G190 : YR D [.v (.st 9)] → Option (YR D [.v (.int .i64)]) := sealF (Gof D fd190 (tabH D h190))
noncomputable def E190 : En D := en_ fd190 G190
noncomputable def F190 (x0 : S102) : Option Int := G190 (x0)
theorem E190_ok : FnOk D PP E190 := ok_ fd190 (l := h190) Tryz.func190 (.cons E229_ok .nil)
/-- wide.left -/
noncomputable def fd191 : FD := ⟨191, bodyF Tryz.f191, Tryz.f191.results.toList, Tryz.f191.ntmps, [.val, .val], [.v (.st 9), .v (.int .u64)], [.v (.st 9)], 1, [], 5000, none⟩
noncomputable def h191 : List (En D) := []
noncomputable def G191 : YR D [.v (.st 9), .v (.int .u64)] → Option (YR D [.v (.st 9)]) := sealF (Gof D fd191 (tabH D h191))
noncomputable def E191 : En D := en_ fd191 G191
noncomputable def F191 (x0 : S102) (x1 : Int) : Option (S102) := G191 (x0, x1)
theorem E191_ok : FnOk D PP E191 := ok_ fd191 (l := h191) Tryz.func191 (.nil)
/-- wide.Shift -/
def c130_0 : Cut := ⟨51, [.v 1 (.int .i64), .box 2 2 (.st 9) 0 [], .box 4 4 (.st 9) 0 []]⟩
noncomputable def fd130 : FD := ⟨130, bodyF Tryz.f130, Tryz.f130.results.toList, Tryz.f130.ntmps, [.val, .val], [.v (.st 9), .v (.int .i64)], [.v (.st 9), .v (.int .i64)], 2, [c130_0], 5000, none⟩
noncomputable def h130 : List (En D) := [E189, E190, E191]
noncomputable def G130 : YR D [.v (.st 9), .v (.int .i64)] → Option (YR D [.v (.st 9), .v (.int .i64)]) := sealF (Gof D fd130 (tabH D h130))
noncomputable def E130 : En D := en_ fd130 G130
noncomputable def F130 (x0 : S102) (x1 : Int) : Option (S102 × Int) := G130 (x0, x1)
noncomputable def L130 : LL D (YR D fd130.ts) := sealF (LiF D fd130 (tabH D h130))
noncomputable def L130_0 (v1 : Int) (v2 v4 : S102) : Option (S102 × Int) := L130 c130_0 (v1, v2, v4, ())
theorem E130_ok : FnOk D PP E130 := ok_ fd130 (l := h130) Tryz.func130 (.cons E189_ok (.cons E190_ok (.cons E191_ok .nil)))
/-- cmp.isNaN[uint64] -/
noncomputable def fd230 : FD := ⟨230, bodyF Tryz.f230, Tryz.f230.results.toList, Tryz.f230.ntmps, [.val], [.v (.int .u64)], [.v (.bool)], 1, [], 5000, none⟩
noncomputable def h230 : List (En D) := []
noncomputable def G230 : YR D [.v (.int .u64)] → Option (YR D [.v (.bool)]) := sealF (Gof D fd230 (tabH D h230))
noncomputable def E230 : En D := en_ fd230 G230
noncomputable def F230 (x0 : Int) : Option Bool := G230 (x0)
theorem E230_ok : FnOk D PP E230 := ok_ fd230 (l := h230) Tryz.func230 (.nil)
/-- cmp.Compare[uint64] -/
noncomputable def fd193 : FD := ⟨193, bodyF Tryz.f193, Tryz.f193.results.toList, Tryz.f193.ntmps, [.val, .val], [.v (.int .u64), .v (.int .u64)], [.v (.int .i64)], 1, [], 5000, none⟩
noncomputable def h193 : List (En D) := [E230]
noncomputable def G193 : YR D [.v (.int .u64), .v (.int .u64)] → Option (YR D [.v (.int .i64)]) := sealF (Gof D fd193 (tabH D h193))
noncomputable def E193 : En D := en_ fd193 G193
noncomputable def F193 (x0 x1 : Int) : Option Int := G193 (x0, x1)
theorem E193_ok : FnOk D PP E193 := ok_ fd193 (l := h193) Tryz.func193 (.cons E230_ok .nil)
/-- cmp.Or[int] -/
def c192_0 : Cut := ⟨116, [.v 3 (.int .i64), .v 6 (.sl (.int .i64)), .v 7 (.int .i64), .v 8 (.int .i64)]⟩
noncomputable def fd192 : FD := ⟨192, bodyF Tryz.f192, Tryz.f192.results.toList, Tryz.f192.ntmps, [.val], [.v (.sl (.int .i64))], [.v (.int .i64)], 1, [c192_0], 5000, none⟩
noncomputable def h192 : List (En D) := []
noncomputable def G192 : YR D [.v (.sl (.int .i64))] → Option (YR D [.v (.int .i64)]) := sealF (Gof D fd192 (tabH D h192))
noncomputable def E192 : En D := en_ fd192 G192
noncomputable def F192 (x0 : List Int) : Option Int := G192 (x0)
noncomputable def L192 : LL D (YR D fd192.ts) := sealF (LiF D fd192 (tabH D h192))
noncomputable def L192_0 (v3 : Int) (v6 : List Int) (v7 v8 : Int) : Option Int := L192 c192_0 (v3, v6, v7, v8, ())
theorem E192_ok : FnOk D PP E192 := ok_ fd192 (l := h192) Tryz.func192 (.nil)
/-- wide.Cmp -/
noncomputable def fd131 : FD := ⟨131, bodyF Tryz.f131, Tryz.f131.results.toList, Tryz.f131.ntmps, [.val, .val], [.v (.st 9), .v (.st 9)], [.v (.int .i64)], 1, [], 5000, none⟩
noncomputable def h131 : List (En D) := [E192, E193]
noncomputable def G131 : YR D [.v (.st 9), .v (.st 9)] → Option (YR D [.v (.int .i64)]) := sealF (Gof D fd131 (tabH D h131))
noncomputable def E131 : En D := en_ fd131 G131
noncomputable def F131 (x0 x1 : S102) : Option Int := G131 (x0, x1)
theorem E131_ok : FnOk D PP E131 := ok_ fd131 (l := h131) Tryz.func131 (.cons E192_ok (.cons E193_ok .nil))
/-- math/bits.Sub64 -/
noncomputable def G194 : YR D [.v (.int .u64), .v (.int .u64), .v (.int .u64)] → Option (YR D [.v (.int .u64), .v (.int .u64)]) := sealF fun x => bits_Sub64 x.1 x.2.1 x.2.2
noncomputable def E194 : En D := ⟨194, [.val, .val, .val], [.v (.int .u64), .v (.int .u64), .v (.int .u64)], [.v (.int .u64), .v (.int .u64)], 2, G194⟩
noncomputable def F194 (x0 x1 x2 : Int) : Option (Int × Int) := G194 (x0, x1, x2)
theorem F194_eq (x0 x1 x2 : Int) : F194 x0 x1 x2 = bits_Sub64 x0 x1 x2 := congrFun (sealF_eq _) (x0, x1, x2)
theorem E194_ok : FnOk D PP E194 := bits_Sub64_ok Tryz.func194 rfl rfl rfl rfl (by kernel_rfl)
/-- wide.Sub -/
noncomputable def fd132 : FD := ⟨132, bodyF Tryz.f132, Tryz.f132.results.toList, Tryz.f132.ntmps, [.val, .val], [.v (.st 9), .v (.st 9)], [.v (.st 9), .v (.int .i64)], 2, [], 5000, none⟩
noncomputable def h132 : List (En D) := [E194]
noncomputable def G132 : YR D [.v (.st 9), .v (.st 9)] → Option (YR D [.v (.st 9), .v (.int .i64)]) := sealF (Gof D fd132 (tabH D h132))
noncomputable def E132 : En D := en_ fd132 G132
noncomputable def F132 (x0 x1 : S102) : Option (S102 × Int) := G132 (x0, x1)
theorem E132_ok : FnOk D PP E132 := ok_ fd132 (l := h132) Tryz.func132 (.cons E194_ok .nil)
/-- ratio.common -/
def c77_0 : Cut := ⟨504, [.box 2 2 (.st 9) 0 [], .box 3 3 (.st 9) 0 [], .box 4 4 (.st 9) 0 [], .v 5 (.int .i64)]⟩
def c77_1 : Cut := ⟨8075, [.box 2 2 (.st 9) 0 [], .box 3 3 (.st 9) 0 [], .box 4 4 (.st 9) 0 [], .v 5 (.int .i64)]⟩
noncomputable def fd77 : FD := ⟨77, bodyF Tryz.f77, Tryz.f77.results.toList, Tryz.f77.ntmps, [.val, .val], [.v (.st 9), .v (.st 9)], [.v (.st 9)], 1, [c77_0, c77_1], 5000, none⟩
noncomputable def h77 : List (En D) := [E129, E130, E131, E132]
noncomputable def G77 : YR D [.v (.st 9), .v (.st 9)] → Option (YR D [.v (.st 9)]) := sealF (Gof D fd77 (tabH D h77))
noncomputable def E77 : En D := en_ fd77 G77
noncomputable def F77 (x0 x1 : S102) : Option (S102) := G77 (x0, x1)
noncomputable def L77 : LL D (YR D fd77.ts) := sealF (LiF D fd77 (tabH D h77))
noncomputable def L77_0 (v2 v3 v4 : S102) (v5 : Int) : Option (S102) := L77 c77_0 (v2, v3, v4, v5, ())
noncomputable def L77_1 (v2 v3 v4 : S102) (v5 : Int) : Option (S102) := L77 c77_1 (v2, v3, v4, v5, ())
theorem E77_ok : FnOk D PP E77 := ok_ fd77 (l := h77) Tryz.func77 (.cons E129_ok (.cons E130_ok (.cons E131_ok (.cons E132_ok .nil))))
/-- ratio.May -/
noncomputable def fd38 : FD := ⟨38, bodyF Tryz.f38, Tryz.f38.results.toList, Tryz.f38.ntmps, [.val], [.v (.st 2)], [.v (.bool)], 1, [], 5000, none⟩
noncomputable def h38 : List (En D) := [E77, E78, E79]
noncomputable def G38 : YR D [.v (.st 2)] → Option (YR D [.v (.bool)]) := sealF (Gof D fd38 (tabH D h38))
noncomputable def E38 : En D := en_ fd38 G38
noncomputable def F38 (x0 : S37) : Option Bool := G38 (x0)
theorem E38_ok : FnOk D PP E38 := ok_ fd38 (l := h38) Tryz.func38 (.cons E77_ok (.cons E78_ok (.cons E79_ok .nil)))
/-- math/bits.Mul64 -/
noncomputable def fd153 : FD := ⟨153, bodyF Tryz.f153, Tryz.f153.results.toList, Tryz.f153.ntmps, [.val, .val], [.v (.int .u64), .v (.int .u64)], [.v (.int .u64), .v (.int .u64)], 2, [], 5000, none⟩
noncomputable def h153 : List (En D) := []
noncomputable def G153 : YR D [.v (.int .u64), .v (.int .u64)] → Option (YR D [.v (.int .u64), .v (.int .u64)]) := sealF (Gof D fd153 (tabH D h153))
noncomputable def E153 : En D := en_ fd153 G153
noncomputable def F153 (x0 x1 : Int) : Option (Int × Int) := G153 (x0, x1)
theorem E153_ok : FnOk D PP E153 := ok_ fd153 (l := h153) Tryz.func153 (.nil)
/-- wide.Mul -/
noncomputable def fd93 : FD := ⟨93, bodyF Tryz.f93, Tryz.f93.results.toList, Tryz.f93.ntmps, [.val, .val], [.v (.int .u64), .v (.int .u64)], [.v (.st 9)], 1, [], 5000, none⟩
noncomputable def h93 : List (En D) := [E153]
noncomputable def G93 : YR D [.v (.int .u64), .v (.int .u64)] → Option (YR D [.v (.st 9)]) := sealF (Gof D fd93 (tabH D h93))
noncomputable def E93 : En D := en_ fd93 G93
noncomputable def F93 (x0 x1 : Int) : Option (S102) := G93 (x0, x1)
theorem E93_ok : FnOk D PP E93 := ok_ fd93 (l := h93) Tryz.func93 (.cons E153_ok .nil)
/-- ratio.times -/
noncomputable def fd134 : FD := ⟨134, bodyF Tryz.f134, Tryz.f134.results.toList, Tryz.f134.ntmps, [.val, .val], [.v (.int .i64), .v (.int .i64)], [.v (.st 12)], 1, [], 5000, none⟩
noncomputable def h134 : List (En D) := [E79, E93]
noncomputable def G134 : YR D [.v (.int .i64), .v (.int .i64)] → Option (YR D [.v (.st 12)]) := sealF (Gof D fd134 (tabH D h134))
noncomputable def E134 : En D := en_ fd134 G134
noncomputable def F134 (x0 x1 : Int) : Option (S160) := G134 (x0, x1)
theorem E134_ok : FnOk D PP E134 := ok_ fd134 (l := h134) Tryz.func134 (.cons E79_ok (.cons E93_ok .nil))
/-- ratio.Cmp -/
def c172_0 : Cut := ⟨7, [.box 2 2 (.st 2) 0 [], .box 3 3 (.st 2) 0 []]⟩
def c172_1 : Cut := ⟨243, [.box 2 2 (.st 2) 0 [], .box 3 3 (.st 2) 0 [], .box 6 6 (.st 12) 0 [], .box 7 7 (.st 12) 0 []]⟩
def c172_2 : Cut := ⟨975, [.box 2 2 (.st 2) 0 [], .box 3 3 (.st 2) 0 [], .box 6 6 (.st 12) 0 [], .box 7 7 (.st 12) 0 []]⟩
def c172_3 : Cut := ⟨3903, [.box 2 2 (.st 2) 0 [], .box 6 6 (.st 12) 0 [], .box 7 7 (.st 12) 0 []]⟩
noncomputable def fd172 : FD := ⟨172, bodyF Tryz.f172, Tryz.f172.results.toList, Tryz.f172.ntmps, [.val, .val], [.v (.st 2), .v (.st 2)], [.v (.int .i64), .v (.int .i64)], 2, [c172_0, c172_1, c172_2, c172_3], 5000, none⟩
noncomputable def h172 : List (En D) := [E38, E131, E134]
noncomputable def G172 : YR D [.v (.st 2), .v (.st 2)] → Option (YR D [.v (.int .i64), .v (.int .i64)]) := sealF (Gof D fd172 (tabH D h172))
noncomputable def E172 : En D := en_ fd172 G172
noncomputable def F172 (x0 x1 : S37) : Option (Int × Int) := G172 (x0, x1)
noncomputable def L172 : LL D (YR D fd172.ts) := sealF (LiF D fd172 (tabH D h172))
noncomputable def L172_0 (v2 v3 : S37) : Option (Int × Int) := L172 c172_0 (v2, v3, ())
noncomputable def L172_1 (v2 v3 : S37) (v6 v7 : S160) : Option (Int × Int) := L172 c172_1 (v2, v3, v6, v7, ())
noncomputable def L172_2 (v2 v3 : S37) (v6 v7 : S160) : Option (Int × Int) := L172 c172_2 (v2, v3, v6, v7, ())
noncomputable def L172_3 (v2 : S37) (v6 v7 : S160) : Option (Int × Int) := L172 c172_3 (v2, v6, v7, ())
theorem E172_ok : FnOk D PP E172 := ok_ fd172 (l := h172) Tryz.func172 (.cons E38_ok (.cons E131_ok (.cons E134_ok .nil)))
/-- poly.Degree -/
noncomputable def fd212 : FD := ⟨212, bodyF Tryz.f212, Tryz.f212.results.toList, Tryz.f212.ntmps, [.val], [.v (.sl (.st 7))], [.v (.int .i64)], 1, [], 5000, none⟩
noncomputable def h212 : List (En D) := [E160]
noncomputable def G212 : YR D [.v (.sl (.st 7))] → Option (YR D [.v (.int .i64)]) := sealF (Gof D fd212 (tabH D h212))
noncomputable def E212 : En D := en_ fd212 G212
noncomputable def F212 (x0 : List S77) : Option Int := G212 (x0)
theorem E212_ok : FnOk D PP E212 := ok_ fd212 (l := h212) Tryz.func212 (.cons E160_ok .nil)
/-- sturm.asked -/
def c168_0 : Cut := ⟨7, [.v 0 (.sl (.st 7))]⟩
noncomputable def fd168 : FD := ⟨168, bodyF Tryz.f168, Tryz.f168.results.toList, Tryz.f168.ntmps, [.val, .val, .val], [.v (.sl (.st 7)), .v (.st 2), .v (.st 2)], [.v (.int .i64)], 1, [c168_0], 5000, none⟩
noncomputable def h168 : List (En D) := [E172, E212]
noncomputable def G168 : YR D [.v (.sl (.st 7)), .v (.st 2), .v (.st 2)] → Option (YR D [.v (.int .i64)]) := sealF (Gof D fd168 (tabH D h168))
noncomputable def E168 : En D := en_ fd168 G168
noncomputable def F168 (x0 : List S77) (x1 x2 : S37) : Option Int := G168 (x0, x1, x2)
noncomputable def L168 : LL D (YR D fd168.ts) := sealF (LiF D fd168 (tabH D h168))
noncomputable def L168_0 (v0 : List S77) : Option Int := L168 c168_0 (v0, ())
theorem E168_ok : FnOk D PP E168 := ok_ fd168 (l := h168) Tryz.func168 (.cons E172_ok (.cons E212_ok .nil))
/-- poly.value -/
def c241_0 : Cut := ⟨500, [.v 0 (.sl (.st 7)), .box 4 4 (.st 7) 0 [], .box 5 5 (.st 7) 0 [], .box 6 6 (.st 7) 0 [], .box 7 7 (.st 7) 0 [], .box 8 8 (.st 7) 0 [], .v 9 (.int .i64)]⟩
noncomputable def fd241 : FD := ⟨241, bodyF Tryz.f241, Tryz.f241.results.toList, Tryz.f241.ntmps, [.val, .val], [.v (.sl (.st 7)), .v (.st 2)], [.v (.st 7)], 1, [c241_0], 5000, none⟩
noncomputable def h241 : List (En D) := [E154, E155, E159, E160]
noncomputable def G241 : YR D [.v (.sl (.st 7)), .v (.st 2)] → Option (YR D [.v (.st 7)]) := sealF (Gof D fd241 (tabH D h241))
noncomputable def E241 : En D := en_ fd241 G241
noncomputable def F241 (x0 : List S77) (x1 : S37) : Option (S77) := G241 (x0, x1)
noncomputable def L241 : LL D (YR D fd241.ts) := sealF (LiF D fd241 (tabH D h241))
noncomputable def L241_0 (v0 : List S77) (v4 v5 v6 v7 v8 : S77) (v9 : Int) : Option (S77) := L241 c241_0 (v0, v4, v5, v6, v7, v8, v9, ())
theorem E241_ok : FnOk D PP E241 := ok_ fd241 (l := h241) Tryz.func241 (.cons E154_ok (.cons E155_ok (.cons E159_ok (.cons E160_ok .nil))))
/-- slices.Clone[[]uint32,uint32] -/
noncomputable def fd236 : FD := ⟨236, bodyF Tryz.f236, Tryz.f236.results.toList, Tryz.f236.ntmps, [.val], [.v (.sl (.int .u32))], [.v (.sl (.int .u32))], 1, [], 5000, some ⟨[.val], [(0, none)]⟩⟩
noncomputable def G236 : YR D [.v (.sl (.int .u32))] → Option (YR D [.v (.sl (.int .u32))]) := sealF fun x => grd (fit (0 + x.length) 4) (some x)
noncomputable def E236 : En D := ⟨236, [.val], [.v (.sl (.int .u32))], [.v (.sl (.int .u32))], 1, G236⟩
noncomputable def F236 (x0 : List Int) : Option (List Int) := G236 (x0)
theorem F236_eq (x0 : List Int) : F236 x0 = grd (fit (0 + x0.length) 4) (some x0) := congrFun (sealF_eq _) x0
theorem E236_ok : FnOk D PP E236 := by
 refine FnX.ok (xm := ⟨[.val], [(0, none)]⟩) (FnX.rows (t := .int .u32) (fun y hy => ?_) (fun y hy => ?_) (fun a l y hy => ?_)) (by kernel_rfl)
 ·obtain rfl : [] = y := Option.some.inj ((show some [] = grd (fit (0 + 0) 4) (some []) by kernel_rfl).trans hy)
  exact fdSX lw fd236 Tryz.func236 (by kernel_rfl) (by kernel_rfl) (by kernel_rfl) (enters_of (c := bodyF Tryz.f236) Tryz.func236 (by kernel_rfl) (by kernel_rfl)) (by kernel_rfl) rfl (by kernel_rfl)
 ·obtain rfl : [] = y := Option.some.inj ((show some [] = grd (fit (0 + 0) 4) (some []) by kernel_rfl).trans hy)
  exact fdSX lw fd236 Tryz.func236 (by kernel_rfl) (by kernel_rfl) (by kernel_rfl) (enters_of (c := bodyF Tryz.f236) Tryz.func236 (by kernel_rfl) (by kernel_rfl)) (by kernel_rfl) rfl (by kernel_rfl)
 ·exact fdSX lw fd236 Tryz.func236 (by kernel_rfl) (by kernel_rfl) (by kernel_rfl) (enters_of (c := bodyF Tryz.f236) Tryz.func236 (by kernel_rfl) (by kernel_rfl)) (by kernel_rfl) rfl ((show entW D fd236 (tabH D []) (LiF D fd236 (tabH D [])) [.c (.lst (.int .u32) (a :: l))] = grd (fit (0 + (a :: l).length) 4) (some (a :: l)) by kernel_rfl).trans hy)
/-- big.size -/
noncomputable def fd251 : FD := ⟨251, bodyF Tryz.f251, Tryz.f251.results.toList, Tryz.f251.ntmps, [.val], [.v (.int .i64)], [.v (.int .u64)], 1, [], 5000, none⟩
noncomputable def h251 : List (En D) := []
noncomputable def G251 : YR D [.v (.int .i64)] → Option (YR D [.v (.int .u64)]) := sealF (Gof D fd251 (tabH D h251))
noncomputable def E251 : En D := en_ fd251 G251
noncomputable def F251 (x0 : Int) : Option Int := G251 (x0)
theorem E251_ok : FnOk D PP E251 := ok_ fd251 (l := h251) Tryz.func251 (.nil)
/-- math/bits.LeadingZeros64 -/
noncomputable def fd250 : FD := ⟨250, bodyF Tryz.f250, Tryz.f250.results.toList, Tryz.f250.ntmps, [.val], [.v (.int .u64)], [.v (.int .i64)], 1, [], 5000, none⟩
noncomputable def h250 : List (En D) := [E229]
noncomputable def G250 : YR D [.v (.int .u64)] → Option (YR D [.v (.int .i64)]) := sealF (Gof D fd250 (tabH D h250))
noncomputable def E250 : En D := en_ fd250 G250
noncomputable def F250 (x0 : Int) : Option Int := G250 (x0)
theorem E250_ok : FnOk D PP E250 := ok_ fd250 (l := h250) Tryz.func250 (.cons E229_ok .nil)
/-- math/bits.Div64 -/
def c244_0 : Cut := ⟨7, [.v 0 (.int .u64), .v 1 (.int .u64), .v 2 (.int .u64)]⟩
def c244_1 : Cut := ⟨15, [.v 0 (.int .u64), .v 1 (.int .u64), .v 2 (.int .u64)]⟩
def c244_2 : Cut := ⟨65535, [.v 2 (.int .u64), .v 8 (.int .u64), .v 9 (.int .u64), .v 10 (.int .u64), .v 11 (.int .u64), .v 13 (.int .u64), .v 14 (.int .u64), .v 15 (.int .u64)]⟩
def c244_3 : Cut := ⟨262136, [.v 2 (.int .u64), .v 8 (.int .u64), .v 9 (.int .u64), .v 10 (.int .u64), .v 11 (.int .u64), .v 13 (.int .u64), .v 14 (.int .u64), .v 15 (.int .u64), .v 16 (.int .u64)]⟩
def c244_4 : Cut := ⟨524273, [.v 2 (.int .u64), .v 8 (.int .u64), .v 9 (.int .u64), .v 10 (.int .u64), .v 11 (.int .u64), .v 13 (.int .u64), .v 14 (.int .u64), .v 15 (.int .u64), .v 16 (.int .u64)]⟩
def c244_5 : Cut := ⟨1048575, [.v 2 (.int .u64), .v 8 (.int .u64), .v 14 (.int .u64), .v 15 (.int .u64), .v 17 (.int .u64), .v 18 (.int .u64)]⟩
def c244_6 : Cut := ⟨4194296, [.v 2 (.int .u64), .v 8 (.int .u64), .v 9 (.int .u64), .v 10 (.int .u64), .v 14 (.int .u64), .v 15 (.int .u64), .v 16 (.int .u64), .v 17 (.int .u64), .v 18 (.int .u64)]⟩
def c244_7 : Cut := ⟨8388593, [.v 2 (.int .u64), .v 8 (.int .u64), .v 9 (.int .u64), .v 10 (.int .u64), .v 14 (.int .u64), .v 15 (.int .u64), .v 16 (.int .u64), .v 17 (.int .u64), .v 18 (.int .u64)]⟩
noncomputable def fd244 : FD := ⟨244, bodyF Tryz.f244, Tryz.f244.results.toList, Tryz.f244.ntmps, [.val, .val, .val], [.v (.int .u64), .v (.int .u64), .v (.int .u64)], [.v (.int .u64), .v (.int .u64)], 2, [c244_0, c244_1, c244_2, c244_3, c244_4, c244_5, c244_6, c244_7], 5000, none⟩
noncomputable def h244 : List (En D) := [E250]
noncomputable def G244 : YR D [.v (.int .u64), .v (.int .u64), .v (.int .u64)] → Option (YR D [.v (.int .u64), .v (.int .u64)]) := sealF (Gof D fd244 (tabH D h244))
noncomputable def E244 : En D := en_ fd244 G244
noncomputable def F244 (x0 x1 x2 : Int) : Option (Int × Int) := G244 (x0, x1, x2)
noncomputable def L244 : LL D (YR D fd244.ts) := sealF (LiF D fd244 (tabH D h244))
noncomputable def L244_0 (v0 v1 v2 : Int) : Option (Int × Int) := L244 c244_0 (v0, v1, v2, ())
noncomputable def L244_1 (v0 v1 v2 : Int) : Option (Int × Int) := L244 c244_1 (v0, v1, v2, ())
noncomputable def L244_2 (v2 v8 v9 v10 v11 v13 v14 v15 : Int) : Option (Int × Int) := L244 c244_2 (v2, v8, v9, v10, v11, v13, v14, v15, ())
noncomputable def L244_3 (v2 v8 v9 v10 v11 v13 v14 v15 v16 : Int) : Option (Int × Int) := L244 c244_3 (v2, v8, v9, v10, v11, v13, v14, v15, v16, ())
noncomputable def L244_4 (v2 v8 v9 v10 v11 v13 v14 v15 v16 : Int) : Option (Int × Int) := L244 c244_4 (v2, v8, v9, v10, v11, v13, v14, v15, v16, ())
noncomputable def L244_5 (v2 v8 v14 v15 v17 v18 : Int) : Option (Int × Int) := L244 c244_5 (v2, v8, v14, v15, v17, v18, ())
noncomputable def L244_6 (v2 v8 v9 v10 v14 v15 v16 v17 v18 : Int) : Option (Int × Int) := L244 c244_6 (v2, v8, v9, v10, v14, v15, v16, v17, v18, ())
noncomputable def L244_7 (v2 v8 v9 v10 v14 v15 v16 v17 v18 : Int) : Option (Int × Int) := L244 c244_7 (v2, v8, v9, v10, v14, v15, v16, v17, v18, ())
theorem E244_ok : FnOk D PP E244 := ok_ fd244 (l := h244) Tryz.func244 (.cons E250_ok .nil)
/-- big.Div -/
def c249_0 : Cut := ⟨127, [.v 1 (.int .i64), .box 2 2 (.st 7) 0 [], .box 4 4 (.st 7) 0 [], .own 7 (.int .u32), .v 8 (.int .u64)]⟩
def c249_1 : Cut := ⟨500, [.v 1 (.int .i64), .box 2 2 (.st 7) 0 [], .box 4 4 (.st 7) 0 [], .own 7 (.int .u32), .v 8 (.int .u64), .v 9 (.int .i64)]⟩
noncomputable def fd249 : FD := ⟨249, bodyF Tryz.f249, Tryz.f249.results.toList, Tryz.f249.ntmps, [.val, .val], [.v (.st 7), .v (.int .i64)], [.v (.st 7), .v (.int .i64), .v (.int .i64)], 3, [c249_0, c249_1], 5000, none⟩
noncomputable def h249 : List (En D) := [E156, E236, E244, E251]
noncomputable def G249 : YR D [.v (.st 7), .v (.int .i64)] → Option (YR D [.v (.st 7), .v (.int .i64), .v (.int .i64)]) := sealF (Gof D fd249 (tabH D h249))
noncomputable def E249 : En D := en_ fd249 G249
noncomputable def F249 (x0 : S77) (x1 : Int) : Option (S77 × Int × Int) := G249 (x0, x1)
noncomputable def L249 : LL D (YR D fd249.ts) := sealF (LiF D fd249 (tabH D h249))
noncomputable def L249_0 (v1 : Int) (v2 v4 : S77) (v7 : List Int) (v8 : Int) : Option (S77 × Int × Int) := L249 c249_0 (v1, v2, v4, v7, v8, ())
noncomputable def L249_1 (v1 : Int) (v2 v4 : S77) (v7 : List Int) (v8 v9 : Int) : Option (S77 × Int × Int) := L249 c249_1 (v1, v2, v4, v7, v8, v9, ())
theorem E249_ok : FnOk D PP E249 := ok_ fd249 (l := h249) Tryz.func249 (.cons E156_ok (.cons E236_ok (.cons E244_ok (.cons E251_ok .nil))))
/-- poly.parted -/
def c242_0 : Cut := ⟨244, [.v 0 (.sl (.st 7)), .box 3 3 (.st 2) 0 [], .own 5 (.st 7), .box 6 6 (.st 7) 0 [], .v 7 (.int .i64)]⟩
noncomputable def fd242 : FD := ⟨242, bodyF Tryz.f242, Tryz.f242.results.toList, Tryz.f242.ntmps, [.val, .val], [.v (.sl (.st 7)), .v (.st 2)], [.v (.sl (.st 7))], 1, [c242_0], 5000, none⟩
noncomputable def h242 : List (En D) := [E154, E155, E159, E160, E249]
noncomputable def G242 : YR D [.v (.sl (.st 7)), .v (.st 2)] → Option (YR D [.v (.sl (.st 7))]) := sealF (Gof D fd242 (tabH D h242))
noncomputable def E242 : En D := en_ fd242 G242
noncomputable def F242 (x0 : List S77) (x1 : S37) : Option (List S77) := G242 (x0, x1)
noncomputable def L242 : LL D (YR D fd242.ts) := sealF (LiF D fd242 (tabH D h242))
noncomputable def L242_0 (v0 : List S77) (v3 : S37) (v5 : List S77) (v6 : S77) (v7 : Int) : Option (List S77) := L242 c242_0 (v0, v3, v5, v6, v7, ())
theorem E242_ok : FnOk D PP E242 := ok_ fd242 (l := h242) Tryz.func242 (.cons E154_ok (.cons E155_ok (.cons E159_ok (.cons E160_ok (.cons E249_ok .nil)))))
/-- poly.Without -/
def c216_0 : Cut := ⟨248, [.v 0 (.sl (.st 7)), .box 3 3 (.st 2) 0 [], .v 7 (.int .i64)]⟩
def c216_1 : Cut := ⟨497, [.v 0 (.sl (.st 7)), .box 3 3 (.st 2) 0 [], .v 7 (.int .i64)]⟩
noncomputable def fd216 : FD := ⟨216, bodyF Tryz.f216, Tryz.f216.results.toList, Tryz.f216.ntmps, [.val, .val], [.v (.sl (.st 7)), .v (.st 2)], [.v (.sl (.st 7)), .v (.int .i64), .v (.int .i64)], 3, [c216_0, c216_1], 5000, none⟩
noncomputable def h216 : List (En D) := [E38, E100, E211, E241, E242]
noncomputable def G216 : YR D [.v (.sl (.st 7)), .v (.st 2)] → Option (YR D [.v (.sl (.st 7)), .v (.int .i64), .v (.int .i64)]) := sealF (Gof D fd216 (tabH D h216))
noncomputable def E216 : En D := en_ fd216 G216
noncomputable def F216 (x0 : List S77) (x1 : S37) : Option (List S77 × Int × Int) := G216 (x0, x1)
noncomputable def L216 : LL D (YR D fd216.ts) := sealF (LiF D fd216 (tabH D h216))
noncomputable def L216_0 (v0 : List S77) (v3 : S37) (v7 : Int) : Option (List S77 × Int × Int) := L216 c216_0 (v0, v3, v7, ())
noncomputable def L216_1 (v0 : List S77) (v3 : S37) (v7 : Int) : Option (List S77 × Int × Int) := L216 c216_1 (v0, v3, v7, ())
theorem E216_ok : FnOk D PP E216 := ok_ fd216 (l := h216) Tryz.func216 (.cons E38_ok (.cons E100_ok (.cons E211_ok (.cons E241_ok (.cons E242_ok .nil)))))
/-- big.Neg -/
noncomputable def fd207 : FD := ⟨207, bodyF Tryz.f207, Tryz.f207.results.toList, Tryz.f207.ntmps, [.val], [.v (.st 7)], [.v (.st 7)], 1, [], 5000, none⟩
noncomputable def h207 : List (En D) := [E156, E236]
noncomputable def G207 : YR D [.v (.st 7)] → Option (YR D [.v (.st 7)]) := sealF (Gof D fd207 (tabH D h207))
noncomputable def E207 : En D := en_ fd207 G207
noncomputable def F207 (x0 : S77) : Option (S77) := G207 (x0)
theorem E207_ok : FnOk D PP E207 := ok_ fd207 (l := h207) Tryz.func207 (.cons E156_ok (.cons E236_ok .nil))
/-- big.Sub -/
noncomputable def fd158 : FD := ⟨158, bodyF Tryz.f158, Tryz.f158.results.toList, Tryz.f158.ntmps, [.val, .val], [.v (.st 7), .v (.st 7)], [.v (.st 7)], 1, [], 5000, none⟩
noncomputable def h158 : List (En D) := [E159, E207]
noncomputable def G158 : YR D [.v (.st 7), .v (.st 7)] → Option (YR D [.v (.st 7)]) := sealF (Gof D fd158 (tabH D h158))
noncomputable def E158 : En D := en_ fd158 G158
noncomputable def F158 (x0 x1 : S77) : Option (S77) := G158 (x0, x1)
theorem E158_ok : FnOk D PP E158 := ok_ fd158 (l := h158) Tryz.func158 (.cons E159_ok (.cons E207_ok .nil))
/-- poly.each(big.Sub) -/
def c157158_0 : Cut := ⟨116, [.fn 2 158 [], .v 0 (.sl (.st 7)), .v 1 (.sl (.st 7)), .own 7 (.st 7), .v 13 (.int .i64), .v 14 (.int .i64)]⟩
noncomputable def fd157158 : FD := ⟨157, bodyF Tryz.f157, Tryz.f157.results.toList, Tryz.f157.ntmps, [.val, .val, .val], [.v (.sl (.st 7)), .v (.sl (.st 7)), .fc 158], [.v (.sl (.st 7))], 1, [c157158_0], 5000, none⟩
noncomputable def h157158 : List (En D) := [E158, E160, E206]
noncomputable def G157158 : YR D [.v (.sl (.st 7)), .v (.sl (.st 7)), .fc 158] → Option (YR D [.v (.sl (.st 7))]) := sealF (Gof D fd157158 (tabH D h157158))
noncomputable def E157158 : En D := en_ fd157158 G157158
noncomputable def F157158 (x0 x1 : List S77) (x2 : Unit) : Option (List S77) := G157158 (x0, x1, x2)
noncomputable def L157158 : LL D (YR D fd157158.ts) := sealF (LiF D fd157158 (tabH D h157158))
noncomputable def L157158_0 (v0 v1 v7 : List S77) (v13 v14 : Int) : Option (List S77) := L157158 c157158_0 (v0, v1, v7, v13, v14, ())
theorem E157158_ok : FnOk D PP E157158 := ok_ fd157158 (l := h157158) Tryz.func157 (.cons E158_ok (.cons E160_ok (.cons E206_ok .nil)))
/-- poly.Sub -/
noncomputable def fd97 : FD := ⟨97, bodyF Tryz.f97, Tryz.f97.results.toList, Tryz.f97.ntmps, [.val, .val], [.v (.sl (.st 7)), .v (.sl (.st 7))], [.v (.sl (.st 7))], 1, [], 5000, none⟩
noncomputable def h97 : List (En D) := [E157158]
noncomputable def G97 : YR D [.v (.sl (.st 7)), .v (.sl (.st 7))] → Option (YR D [.v (.sl (.st 7))]) := sealF (Gof D fd97 (tabH D h97))
noncomputable def E97 : En D := en_ fd97 G97
noncomputable def F97 (x0 x1 : List S77) : Option (List S77) := G97 (x0, x1)
theorem E97_ok : FnOk D PP E97 := ok_ fd97 (l := h97) Tryz.func97 (.cons E157158_ok .nil)
/-- sturm.negated -/
noncomputable def fd215 : FD := ⟨215, bodyF Tryz.f215, Tryz.f215.results.toList, Tryz.f215.ntmps, [.val], [.v (.sl (.st 7))], [.v (.sl (.st 7))], 1, [], 5000, none⟩
noncomputable def h215 : List (En D) := [E97]
noncomputable def G215 : YR D [.v (.sl (.st 7))] → Option (YR D [.v (.sl (.st 7))]) := sealF (Gof D fd215 (tabH D h215))
noncomputable def E215 : En D := en_ fd215 G215
noncomputable def F215 (x0 : List S77) : Option (List S77) := G215 (x0)
theorem E215_ok : FnOk D PP E215 := ok_ fd215 (l := h215) Tryz.func215 (.cons E97_ok .nil)
/-- sturm.without -/
noncomputable def fd170 : FD := ⟨170, bodyF Tryz.f170, Tryz.f170.results.toList, Tryz.f170.ntmps, [.val, .val, .val], [.v (.sl (.st 7)), .v (.st 2), .v (.st 2)], [.v (.sl (.st 7))], 1, [], 5000, none⟩
noncomputable def h170 : List (En D) := [E215, E216]
noncomputable def G170 : YR D [.v (.sl (.st 7)), .v (.st 2), .v (.st 2)] → Option (YR D [.v (.sl (.st 7))]) := sealF (Gof D fd170 (tabH D h170))
noncomputable def E170 : En D := en_ fd170 G170
noncomputable def F170 (x0 : List S77) (x1 x2 : S37) : Option (List S77) := G170 (x0, x1, x2)
theorem E170_ok : FnOk D PP E170 := ok_ fd170 (l := h170) Tryz.func170 (.cons E215_ok (.cons E216_ok .nil))
/-- poly.Derive -/
def c213_0 : Cut := ⟨116, [.v 0 (.sl (.st 7)), .own 3 (.st 7), .v 4 (.int .i64)]⟩
noncomputable def fd213 : FD := ⟨213, bodyF Tryz.f213, Tryz.f213.results.toList, Tryz.f213.ntmps, [.val], [.v (.sl (.st 7))], [.v (.sl (.st 7))], 1, [c213_0], 5000, none⟩
noncomputable def h213 : List (En D) := [E154, E155, E160]
noncomputable def G213 : YR D [.v (.sl (.st 7))] → Option (YR D [.v (.sl (.st 7))]) := sealF (Gof D fd213 (tabH D h213))
noncomputable def E213 : En D := en_ fd213 G213
noncomputable def F213 (x0 : List S77) : Option (List S77) := G213 (x0)
noncomputable def L213 : LL D (YR D fd213.ts) := sealF (LiF D fd213 (tabH D h213))
noncomputable def L213_0 (v0 v3 : List S77) (v4 : Int) : Option (List S77) := L213 c213_0 (v0, v3, v4, ())
theorem E213_ok : FnOk D PP E213 := ok_ fd213 (l := h213) Tryz.func213 (.cons E154_ok (.cons E155_ok (.cons E160_ok .nil)))
/-- poly.sized -/
noncomputable def fd240 : FD := ⟨240, bodyF Tryz.f240, Tryz.f240.results.toList, Tryz.f240.ntmps, [.val], [.v (.st 7)], [.v (.st 7)], 1, [], 5000, none⟩
noncomputable def h240 : List (En D) := [E207, E211]
noncomputable def G240 : YR D [.v (.st 7)] → Option (YR D [.v (.st 7)]) := sealF (Gof D fd240 (tabH D h240))
noncomputable def E240 : En D := en_ fd240 G240
noncomputable def F240 (x0 : S77) : Option (S77) := G240 (x0)
theorem E240_ok : FnOk D PP E240 := ok_ fd240 (l := h240) Tryz.func240 (.cons E207_ok (.cons E211_ok .nil))
/-- poly.Rest -/
def c214_0 : Cut := ⟨504, [.v 0 (.sl (.st 7)), .v 1 (.sl (.st 7)), .box 6 6 (.st 7) 0 []]⟩
def c214_1 : Cut := ⟨8075, [.v 0 (.sl (.st 7)), .v 1 (.sl (.st 7)), .box 6 6 (.st 7) 0 [], .box 7 7 (.st 7) 0 []]⟩
def c214_2 : Cut := ⟨516852, [.v 1 (.sl (.st 7)), .box 6 6 (.st 7) 0 [], .box 7 7 (.st 7) 0 [], .v 8 (.int .i64), .own 9 (.st 7), .v 46 (.sl (.st 7)), .v 47 (.int .i64), .v 48 (.int .i64)]⟩
noncomputable def fd214 : FD := ⟨214, bodyF Tryz.f214, Tryz.f214.results.toList, Tryz.f214.ntmps, [.val, .val], [.v (.sl (.st 7)), .v (.sl (.st 7))], [.v (.sl (.st 7)), .v (.int .i64)], 2, [c214_0, c214_1, c214_2], 5000, none⟩
noncomputable def h214 : List (En D) := [E100, E154, E158, E160, E206, E207, E211, E240]
noncomputable def G214 : YR D [.v (.sl (.st 7)), .v (.sl (.st 7))] → Option (YR D [.v (.sl (.st 7)), .v (.int .i64)]) := sealF (Gof D fd214 (tabH D h214))
noncomputable def E214 : En D := en_ fd214 G214
noncomputable def F214 (x0 x1 : List S77) : Option (List S77 × Int) := G214 (x0, x1)
noncomputable def L214 : LL D (YR D fd214.ts) := sealF (LiF D fd214 (tabH D h214))
noncomputable def L214_0 (v0 v1 : List S77) (v6 : S77) : Option (List S77 × Int) := L214 c214_0 (v0, v1, v6, ())
noncomputable def L214_1 (v0 v1 : List S77) (v6 v7 : S77) : Option (List S77 × Int) := L214 c214_1 (v0, v1, v6, v7, ())
noncomputable def L214_2 (v1 : List S77) (v6 v7 : S77) (v8 : Int) (v9 v46 : List S77) (v47 v48 : Int) : Option (List S77 × Int) := L214 c214_2 (v1, v6, v7, v8, v9, v46, v47, v48, ())
theorem E214_ok : FnOk D PP E214 := ok_ fd214 (l := h214) Tryz.func214 (.cons E100_ok (.cons E154_ok (.cons E158_ok (.cons E160_ok (.cons E206_ok (.cons E207_ok (.cons E211_ok (.cons E240_ok .nil))))))))
/-- sturm.Chain -/
def c169_0 : Cut := ⟨500, [.v 0 (.sl (.st 7)), .own 4 (.sl (.st 7)), .v 5 (.sl (.st 7))]⟩
noncomputable def fd169 : FD := ⟨169, bodyF Tryz.f169, Tryz.f169.results.toList, Tryz.f169.ntmps, [.val], [.v (.sl (.st 7))], [.v (.sl (.sl (.st 7))), .v (.int .i64)], 2, [c169_0], 5000, none⟩
noncomputable def h169 : List (En D) := [E100, E213, E214, E215]
noncomputable def G169 : YR D [.v (.sl (.st 7))] → Option (YR D [.v (.sl (.sl (.st 7))), .v (.int .i64)]) := sealF (Gof D fd169 (tabH D h169))
noncomputable def E169 : En D := en_ fd169 G169
noncomputable def F169 (x0 : List S77) : Option (List (List S77) × Int) := G169 (x0)
noncomputable def L169 : LL D (YR D fd169.ts) := sealF (LiF D fd169 (tabH D h169))
noncomputable def L169_0 (v0 : List S77) (v4 : List (List S77)) (v5 : List S77) : Option (List (List S77) × Int) := L169 c169_0 (v0, v4, v5, ())
theorem E169_ok : FnOk D PP E169 := ok_ fd169 (l := h169) Tryz.func169 (.cons E100_ok (.cons E213_ok (.cons E214_ok (.cons E215_ok .nil))))
/-- poly.At -/
noncomputable def fd218 : FD := ⟨218, bodyF Tryz.f218, Tryz.f218.results.toList, Tryz.f218.ntmps, [.val, .val], [.v (.sl (.st 7)), .v (.st 2)], [.v (.st 7), .v (.int .i64)], 2, [], 5000, none⟩
noncomputable def h218 : List (En D) := [E38, E241]
noncomputable def G218 : YR D [.v (.sl (.st 7)), .v (.st 2)] → Option (YR D [.v (.st 7), .v (.int .i64)]) := sealF (Gof D fd218 (tabH D h218))
noncomputable def E218 : En D := en_ fd218 G218
noncomputable def F218 (x0 : List S77) (x1 : S37) : Option (S77 × Int) := G218 (x0, x1)
theorem E218_ok : FnOk D PP E218 := ok_ fd218 (l := h218) Tryz.func218 (.cons E38_ok (.cons E241_ok .nil))
/-- sturm.sign -/
noncomputable def fd232 : FD := ⟨232, bodyF Tryz.f232, Tryz.f232.results.toList, Tryz.f232.ntmps, [.val, .val], [.v (.sl (.st 7)), .v (.st 2)], [.v (.int .i64)], 1, [], 5000, none⟩
noncomputable def h232 : List (En D) := [E211, E218]
noncomputable def G232 : YR D [.v (.sl (.st 7)), .v (.st 2)] → Option (YR D [.v (.int .i64)]) := sealF (Gof D fd232 (tabH D h232))
noncomputable def E232 : En D := en_ fd232 G232
noncomputable def F232 (x0 : List S77) (x1 : S37) : Option Int := G232 (x0, x1)
theorem E232_ok : FnOk D PP E232 := ok_ fd232 (l := h232) Tryz.func232 (.cons E211_ok (.cons E218_ok .nil))
/-- sturm.Changes -/
def c217_0 : Cut := ⟨244, [.box 3 3 (.st 2) 0 [], .v 6 (.int .i64), .v 7 (.int .i64), .v 14 (.sl (.sl (.st 7))), .v 15 (.int .i64), .v 16 (.int .i64)]⟩
noncomputable def fd217 : FD := ⟨217, bodyF Tryz.f217, Tryz.f217.results.toList, Tryz.f217.ntmps, [.val, .val], [.v (.sl (.sl (.st 7))), .v (.st 2)], [.v (.int .i64), .v (.int .i64)], 2, [c217_0], 5000, none⟩
noncomputable def h217 : List (En D) := [E38, E232]
noncomputable def G217 : YR D [.v (.sl (.sl (.st 7))), .v (.st 2)] → Option (YR D [.v (.int .i64), .v (.int .i64)]) := sealF (Gof D fd217 (tabH D h217))
noncomputable def E217 : En D := en_ fd217 G217
noncomputable def F217 (x0 : List (List S77)) (x1 : S37) : Option (Int × Int) := G217 (x0, x1)
noncomputable def L217 : LL D (YR D fd217.ts) := sealF (LiF D fd217 (tabH D h217))
noncomputable def L217_0 (v3 : S37) (v6 v7 : Int) (v14 : List (List S77)) (v15 v16 : Int) : Option (Int × Int) := L217 c217_0 (v3, v6, v7, v14, v15, v16, ())
theorem E217_ok : FnOk D PP E217 := ok_ fd217 (l := h217) Tryz.func217 (.cons E38_ok (.cons E232_ok .nil))
/-- sturm.roots -/
noncomputable def fd171 : FD := ⟨171, bodyF Tryz.f171, Tryz.f171.results.toList, Tryz.f171.ntmps, [.val, .val, .val], [.v (.sl (.sl (.st 7))), .v (.st 2), .v (.st 2)], [.v (.int .i64)], 1, [], 5000, none⟩
noncomputable def h171 : List (En D) := [E217]
noncomputable def G171 : YR D [.v (.sl (.sl (.st 7))), .v (.st 2), .v (.st 2)] → Option (YR D [.v (.int .i64)]) := sealF (Gof D fd171 (tabH D h171))
noncomputable def E171 : En D := en_ fd171 G171
noncomputable def F171 (x0 : List (List S77)) (x1 x2 : S37) : Option Int := G171 (x0, x1, x2)
theorem E171_ok : FnOk D PP E171 := ok_ fd171 (l := h171) Tryz.func171 (.cons E217_ok .nil)
/-- wide.Div -/
noncomputable def fd231 : FD := ⟨231, bodyF Tryz.f231, Tryz.f231.results.toList, Tryz.f231.ntmps, [.val, .val], [.v (.st 9), .v (.int .u64)], [.v (.st 9), .v (.int .u64), .v (.int .i64)], 3, [], 5000, none⟩
noncomputable def h231 : List (En D) := [E244]
noncomputable def G231 : YR D [.v (.st 9), .v (.int .u64)] → Option (YR D [.v (.st 9), .v (.int .u64), .v (.int .i64)]) := sealF (Gof D fd231 (tabH D h231))
noncomputable def E231 : En D := en_ fd231 G231
noncomputable def F231 (x0 : S102) (x1 : Int) : Option (S102 × Int × Int) := G231 (x0, x1)
theorem E231_ok : FnOk D PP E231 := ok_ fd231 (l := h231) Tryz.func231 (.cons E244_ok .nil)
/-- ratio.part -/
def c195_0 : Cut := ⟨244, [.box 2 2 (.st 9) 0 [], .box 3 3 (.st 9) 0 [], .box 4 4 (.st 9) 0 [], .box 8 8 (.st 9) 0 [], .v 9 (.int .i64)]⟩
def c195_1 : Cut := ⟨15654, [.box 2 2 (.st 9) 0 [], .box 3 3 (.st 9) 0 [], .box 4 4 (.st 9) 0 [], .box 8 8 (.st 9) 0 [], .v 9 (.int .i64), .box 10 10 (.st 9) 0 []]⟩
noncomputable def fd195 : FD := ⟨195, bodyF Tryz.f195, Tryz.f195.results.toList, Tryz.f195.ntmps, [.val, .val], [.v (.st 9), .v (.st 9)], [.v (.st 9)], 1, [c195_0, c195_1], 5000, none⟩
noncomputable def h195 : List (En D) := [E130, E131, E132, E231]
noncomputable def G195 : YR D [.v (.st 9), .v (.st 9)] → Option (YR D [.v (.st 9)]) := sealF (Gof D fd195 (tabH D h195))
noncomputable def E195 : En D := en_ fd195 G195
noncomputable def F195 (x0 x1 : S102) : Option (S102) := G195 (x0, x1)
noncomputable def L195 : LL D (YR D fd195.ts) := sealF (LiF D fd195 (tabH D h195))
noncomputable def L195_0 (v2 v3 v4 v8 : S102) (v9 : Int) : Option (S102) := L195 c195_0 (v2, v3, v4, v8, v9, ())
noncomputable def L195_1 (v2 v3 v4 v8 : S102) (v9 : Int) (v10 : S102) : Option (S102) := L195 c195_1 (v2, v3, v4, v8, v9, v10, ())
theorem E195_ok : FnOk D PP E195 := ok_ fd195 (l := h195) Tryz.func195 (.cons E130_ok (.cons E131_ok (.cons E132_ok (.cons E231_ok .nil))))
/-- ratio.fits -/
def c196_0 : Cut := ⟨51, [.v 0 (.bool), .box 3 3 (.st 9) 0 []]⟩
noncomputable def fd196 : FD := ⟨196, bodyF Tryz.f196, Tryz.f196.results.toList, Tryz.f196.ntmps, [.val, .val], [.v (.bool), .v (.st 9)], [.v (.int .i64), .v (.bool)], 2, [c196_0], 5000, none⟩
noncomputable def h196 : List (En D) := []
noncomputable def G196 : YR D [.v (.bool), .v (.st 9)] → Option (YR D [.v (.int .i64), .v (.bool)]) := sealF (Gof D fd196 (tabH D h196))
noncomputable def E196 : En D := en_ fd196 G196
noncomputable def F196 (x0 : Bool) (x1 : S102) : Option (Int × Bool) := G196 (x0, x1)
noncomputable def L196 : LL D (YR D fd196.ts) := sealF (LiF D fd196 (tabH D h196))
noncomputable def L196_0 (v0 : Bool) (v3 : S102) : Option (Int × Bool) := L196 c196_0 (v0, v3, ())
theorem E196_ok : FnOk D PP E196 := ok_ fd196 (l := h196) Tryz.func196 (.nil)
/-- ratio.lowest -/
def c133_0 : Cut := ⟨31, [.box 4 4 (.st 2) 0 [], .box 8 8 (.st 9) 0 [], .v 9 (.int .i64), .v 10 (.bool)]⟩
noncomputable def fd133 : FD := ⟨133, bodyF Tryz.f133, Tryz.f133.results.toList, Tryz.f133.ntmps, [.val, .val], [.v (.st 12), .v (.st 12)], [.v (.st 2), .v (.int .i64)], 2, [c133_0], 5000, none⟩
noncomputable def h133 : List (En D) := [E77, E195, E196]
noncomputable def G133 : YR D [.v (.st 12), .v (.st 12)] → Option (YR D [.v (.st 2), .v (.int .i64)]) := sealF (Gof D fd133 (tabH D h133))
noncomputable def E133 : En D := en_ fd133 G133
noncomputable def F133 (x0 x1 : S160) : Option (S37 × Int) := G133 (x0, x1)
noncomputable def L133 : LL D (YR D fd133.ts) := sealF (LiF D fd133 (tabH D h133))
noncomputable def L133_0 (v4 : S37) (v8 : S102) (v9 : Int) (v10 : Bool) : Option (S37 × Int) := L133 c133_0 (v4, v8, v9, v10, ())
theorem E133_ok : FnOk D PP E133 := ok_ fd133 (l := h133) Tryz.func133 (.cons E77_ok (.cons E195_ok (.cons E196_ok .nil)))
/-- ratio.New -/
noncomputable def fd80 : FD := ⟨80, bodyF Tryz.f80, Tryz.f80.results.toList, Tryz.f80.ntmps, [.val, .val], [.v (.int .i64), .v (.int .i64)], [.v (.st 2), .v (.int .i64)], 2, [], 5000, none⟩
noncomputable def h80 : List (En D) := [E133, E134]
noncomputable def G80 : YR D [.v (.int .i64), .v (.int .i64)] → Option (YR D [.v (.st 2), .v (.int .i64)]) := sealF (Gof D fd80 (tabH D h80))
noncomputable def E80 : En D := en_ fd80 G80
noncomputable def F80 (x0 x1 : Int) : Option (S37 × Int) := G80 (x0, x1)
theorem E80_ok : FnOk D PP E80 := ok_ fd80 (l := h80) Tryz.func80 (.cons E133_ok (.cons E134_ok .nil))
/-- pochoirref16.fine -/
noncomputable def fd75 : FD := ⟨75, bodyF Tryz.f75, Tryz.f75.results.toList, Tryz.f75.ntmps, [.val], [.v (.st 0)], [.v (.bool)], 1, [], 5000, none⟩
noncomputable def h75 : List (En D) := []
noncomputable def G75 : YR D [.v (.st 0)] → Option (YR D [.v (.bool)]) := sealF (Gof D fd75 (tabH D h75))
noncomputable def E75 : En D := en_ fd75 G75
noncomputable def F75 (x0 : S24) : Option Bool := G75 (x0)
theorem E75_ok : FnOk D PP E75 := ok_ fd75 (l := h75) Tryz.func75 (.nil)
/-- pochoirref16.same -/
noncomputable def fd76 : FD := ⟨76, bodyF Tryz.f76, Tryz.f76.results.toList, Tryz.f76.ntmps, [.val], [.v (.st 1)], [.v (.bool)], 1, [], 5000, none⟩
noncomputable def h76 : List (En D) := []
noncomputable def G76 : YR D [.v (.st 1)] → Option (YR D [.v (.bool)]) := sealF (Gof D fd76 (tabH D h76))
noncomputable def E76 : En D := en_ fd76 G76
noncomputable def F76 (x0 : S34) : Option Bool := G76 (x0)
theorem E76_ok : FnOk D PP E76 := ok_ fd76 (l := h76) Tryz.func76 (.nil)
/-- pochoirref16.One -/
noncomputable def fd35 : FD := ⟨35, bodyF Tryz.f35, Tryz.f35.results.toList, Tryz.f35.ntmps, [.val], [.v (.st 1)], [.v (.bool)], 1, [], 5000, none⟩
noncomputable def h35 : List (En D) := [E75, E76]
noncomputable def G35 : YR D [.v (.st 1)] → Option (YR D [.v (.bool)]) := sealF (Gof D fd35 (tabH D h35))
noncomputable def E35 : En D := en_ fd35 G35
noncomputable def F35 (x0 : S34) : Option Bool := G35 (x0)
theorem E35_ok : FnOk D PP E35 := ok_ fd35 (l := h35) Tryz.func35 (.cons E75_ok (.cons E76_ok .nil))
/-- pochoirref18.May -/
noncomputable def fd31 : FD := ⟨31, bodyF Tryz.f31, Tryz.f31.results.toList, Tryz.f31.ntmps, [.val], [.v (.st 0)], [.v (.bool)], 1, [], 5000, none⟩
noncomputable def h31 : List (En D) := []
noncomputable def G31 : YR D [.v (.st 0)] → Option (YR D [.v (.bool)]) := sealF (Gof D fd31 (tabH D h31))
noncomputable def E31 : En D := en_ fd31 G31
noncomputable def F31 (x0 : S24) : Option Bool := G31 (x0)
theorem E31_ok : FnOk D PP E31 := ok_ fd31 (l := h31) Tryz.func31 (.nil)
/-- pochoirref02.trim -/
def c165_0 : Cut := ⟨56, [.v 0 (.sl (.int .u64)), .v 3 (.int .i64)]⟩
noncomputable def fd165 : FD := ⟨165, bodyF Tryz.f165, Tryz.f165.results.toList, Tryz.f165.ntmps, [.val], [.v (.sl (.int .u64))], [.v (.sl (.int .u64))], 1, [c165_0], 5000, none⟩
noncomputable def h165 : List (En D) := []
noncomputable def G165 : YR D [.v (.sl (.int .u64))] → Option (YR D [.v (.sl (.int .u64))]) := sealF (Gof D fd165 (tabH D h165))
noncomputable def E165 : En D := en_ fd165 G165
noncomputable def F165 (x0 : List Int) : Option (List Int) := G165 (x0)
noncomputable def L165 : LL D (YR D fd165.ts) := sealF (LiF D fd165 (tabH D h165))
noncomputable def L165_0 (v0 : List Int) (v3 : Int) : Option (List Int) := L165 c165_0 (v0, v3, ())
theorem E165_ok : FnOk D PP E165 := ok_ fd165 (l := h165) Tryz.func165 (.nil)
/-- pochoirref02.norm -/
noncomputable def fd105 : FD := ⟨105, bodyF Tryz.f105, Tryz.f105.results.toList, Tryz.f105.ntmps, [.val, .val], [.v (.bool), .v (.sl (.int .u64))], [.v (.st 8)], 1, [], 5000, none⟩
noncomputable def h105 : List (En D) := [E165]
noncomputable def G105 : YR D [.v (.bool), .v (.sl (.int .u64))] → Option (YR D [.v (.st 8)]) := sealF (Gof D fd105 (tabH D h105))
noncomputable def E105 : En D := en_ fd105 G105
noncomputable def F105 (x0 : Bool) (x1 : List Int) : Option (S81) := G105 (x0, x1)
theorem E105_ok : FnOk D PP E105 := ok_ fd105 (l := h105) Tryz.func105 (.cons E165_ok .nil)
/-- pochoirref02.Of -/
def c55_0 : Cut := ⟨15, [.v 0 (.int .i64), .box 2 2 (.st 8) 0 [], .v 3 (.int .u64)]⟩
noncomputable def fd55 : FD := ⟨55, bodyF Tryz.f55, Tryz.f55.results.toList, Tryz.f55.ntmps, [.val], [.v (.int .i64)], [.v (.st 8)], 1, [c55_0], 5000, none⟩
noncomputable def h55 : List (En D) := [E105]
noncomputable def G55 : YR D [.v (.int .i64)] → Option (YR D [.v (.st 8)]) := sealF (Gof D fd55 (tabH D h55))
noncomputable def E55 : En D := en_ fd55 G55
noncomputable def F55 (x0 : Int) : Option (S81) := G55 (x0)
noncomputable def L55 : LL D (YR D fd55.ts) := sealF (LiF D fd55 (tabH D h55))
noncomputable def L55_0 (v0 : Int) (v2 : S81) (v3 : Int) : Option (S81) := L55 c55_0 (v0, v2, v3, ())
theorem E55_ok : FnOk D PP E55 := ok_ fd55 (l := h55) Tryz.func55 (.cons E105_ok .nil)
/-- pochoirref02.Sign -/
noncomputable def fd136 : FD := ⟨136, bodyF Tryz.f136, Tryz.f136.results.toList, Tryz.f136.ntmps, [.val], [.v (.st 8)], [.v (.int .i64)], 1, [], 5000, none⟩
noncomputable def h136 : List (En D) := []
noncomputable def G136 : YR D [.v (.st 8)] → Option (YR D [.v (.int .i64)]) := sealF (Gof D fd136 (tabH D h136))
noncomputable def E136 : En D := en_ fd136 G136
noncomputable def F136 (x0 : S81) : Option Int := G136 (x0)
theorem E136_ok : FnOk D PP E136 := ok_ fd136 (l := h136) Tryz.func136 (.nil)
/-- pochoirref05.Trim -/
def c104_0 : Cut := ⟨56, [.v 0 (.sl (.st 8)), .v 3 (.int .i64)]⟩
noncomputable def fd104 : FD := ⟨104, bodyF Tryz.f104, Tryz.f104.results.toList, Tryz.f104.ntmps, [.val], [.v (.sl (.st 8))], [.v (.sl (.st 8))], 1, [c104_0], 5000, none⟩
noncomputable def h104 : List (En D) := [E136]
noncomputable def G104 : YR D [.v (.sl (.st 8))] → Option (YR D [.v (.sl (.st 8))]) := sealF (Gof D fd104 (tabH D h104))
noncomputable def E104 : En D := en_ fd104 G104
noncomputable def F104 (x0 : List S81) : Option (List S81) := G104 (x0)
noncomputable def L104 : LL D (YR D fd104.ts) := sealF (LiF D fd104 (tabH D h104))
noncomputable def L104_0 (v0 : List S81) (v3 : Int) : Option (List S81) := L104 c104_0 (v0, v3, ())
theorem E104_ok : FnOk D PP E104 := ok_ fd104 (l := h104) Tryz.func104 (.cons E136_ok .nil)
/-- pochoirref05.Of -/
def c65_0 : Cut := ⟨116, [.v 0 (.sl (.int .i64)), .own 3 (.st 8), .v 4 (.int .i64)]⟩
noncomputable def fd65 : FD := ⟨65, bodyF Tryz.f65, Tryz.f65.results.toList, Tryz.f65.ntmps, [.val], [.v (.sl (.int .i64))], [.v (.sl (.st 8))], 1, [c65_0], 5000, none⟩
noncomputable def h65 : List (En D) := [E55, E104]
noncomputable def G65 : YR D [.v (.sl (.int .i64))] → Option (YR D [.v (.sl (.st 8))]) := sealF (Gof D fd65 (tabH D h65))
noncomputable def E65 : En D := en_ fd65 G65
noncomputable def F65 (x0 : List Int) : Option (List S81) := G65 (x0)
noncomputable def L65 : LL D (YR D fd65.ts) := sealF (LiF D fd65 (tabH D h65))
noncomputable def L65_0 (v0 : List Int) (v3 : List S81) (v4 : Int) : Option (List S81) := L65 c65_0 (v0, v3, v4, ())
theorem E65_ok : FnOk D PP E65 := ok_ fd65 (l := h65) Tryz.func65 (.cons E55_ok (.cons E104_ok .nil))
/-- pochoirref20.curve -/
noncomputable def fd50 : FD := ⟨50, bodyF Tryz.f50, Tryz.f50.results.toList, Tryz.f50.ntmps, [.val, .val, .val, .val, .val], [.v (.bool), .v (.int .i64), .v (.int .i64), .v (.int .i64), .v (.int .i64)], [.v (.sl (.st 8))], 1, [], 5000, none⟩
noncomputable def h50 : List (En D) := [E65]
noncomputable def G50 : YR D [.v (.bool), .v (.int .i64), .v (.int .i64), .v (.int .i64), .v (.int .i64)] → Option (YR D [.v (.sl (.st 8))]) := sealF (Gof D fd50 (tabH D h50))
noncomputable def E50 : En D := en_ fd50 G50
noncomputable def F50 (x0 : Bool) (x1 x2 x3 x4 : Int) : Option (List S81) := G50 (x0, x1, x2, x3, x4)
theorem E50_ok : FnOk D PP E50 := ok_ fd50 (l := h50) Tryz.func50 (.cons E65_ok .nil)
/-- pochoirref05.at -/
noncomputable def fd103 : FD := ⟨103, bodyF Tryz.f103, Tryz.f103.results.toList, Tryz.f103.ntmps, [.val, .val], [.v (.sl (.st 8)), .v (.int .i64)], [.v (.st 8)], 1, [], 5000, none⟩
noncomputable def h103 : List (En D) := []
noncomputable def G103 : YR D [.v (.sl (.st 8)), .v (.int .i64)] → Option (YR D [.v (.st 8)]) := sealF (Gof D fd103 (tabH D h103))
noncomputable def E103 : En D := en_ fd103 G103
noncomputable def F103 (x0 : List S81) (x1 : Int) : Option (S81) := G103 (x0, x1)
theorem E103_ok : FnOk D PP E103 := ok_ fd103 (l := h103) Tryz.func103 (.nil)
/-- pochoirref02.at -/
noncomputable def fd101 : FD := ⟨101, bodyF Tryz.f101, Tryz.f101.results.toList, Tryz.f101.ntmps, [.val, .val], [.v (.sl (.int .u64)), .v (.int .i64)], [.v (.int .u64)], 1, [], 5000, none⟩
noncomputable def h101 : List (En D) := []
noncomputable def G101 : YR D [.v (.sl (.int .u64)), .v (.int .i64)] → Option (YR D [.v (.int .u64)]) := sealF (Gof D fd101 (tabH D h101))
noncomputable def E101 : En D := en_ fd101 G101
noncomputable def F101 (x0 : List Int) (x1 : Int) : Option Int := G101 (x0, x1)
theorem E101_ok : FnOk D PP E101 := ok_ fd101 (l := h101) Tryz.func101 (.nil)
/-- pochoirref02.Mul -/
def c53_0 : Cut := ⟨116, [.box 2 2 (.st 8) 0 [], .box 3 3 (.st 8) 0 [], .box 4 4 (.st 8) 0 [], .own 5 (.int .u64), .v 6 (.int .i64)]⟩
def c53_1 : Cut := ⟨14924, [.box 2 2 (.st 8) 0 [], .box 3 3 (.st 8) 0 [], .box 4 4 (.st 8) 0 [], .own 5 (.int .u64), .v 6 (.int .i64), .v 7 (.int .u64), .v 8 (.int .i64)]⟩
def c53_2 : Cut := ⟨29849, [.box 2 2 (.st 8) 0 [], .box 3 3 (.st 8) 0 [], .box 4 4 (.st 8) 0 [], .own 5 (.int .u64), .v 6 (.int .i64), .v 7 (.int .u64), .v 8 (.int .i64)]⟩
noncomputable def fd53 : FD := ⟨53, bodyF Tryz.f53, Tryz.f53.results.toList, Tryz.f53.ntmps, [.val, .val], [.v (.st 8), .v (.st 8)], [.v (.st 8)], 1, [c53_0, c53_1, c53_2], 5000, none⟩
noncomputable def h53 : List (En D) := [E101, E105]
noncomputable def G53 : YR D [.v (.st 8), .v (.st 8)] → Option (YR D [.v (.st 8)]) := sealF (Gof D fd53 (tabH D h53))
noncomputable def E53 : En D := en_ fd53 G53
noncomputable def F53 (x0 x1 : S81) : Option (S81) := G53 (x0, x1)
noncomputable def L53 : LL D (YR D fd53.ts) := sealF (LiF D fd53 (tabH D h53))
noncomputable def L53_0 (v2 v3 v4 : S81) (v5 : List Int) (v6 : Int) : Option (S81) := L53 c53_0 (v2, v3, v4, v5, v6, ())
noncomputable def L53_1 (v2 v3 v4 : S81) (v5 : List Int) (v6 v7 v8 : Int) : Option (S81) := L53 c53_1 (v2, v3, v4, v5, v6, v7, v8, ())
noncomputable def L53_2 (v2 v3 v4 : S81) (v5 : List Int) (v6 v7 v8 : Int) : Option (S81) := L53 c53_2 (v2, v3, v4, v5, v6, v7, v8, ())
theorem E53_ok : FnOk D PP E53 := ok_ fd53 (l := h53) Tryz.func53 (.cons E101_ok (.cons E105_ok .nil))
/-- pochoirref02.plus -/
def c162_0 : Cut := ⟨244, [.v 0 (.sl (.int .u64)), .v 1 (.sl (.int .u64)), .own 5 (.int .u64), .v 6 (.int .u64), .v 7 (.int .i64)]⟩
def c162_1 : Cut := ⟨489, [.v 0 (.sl (.int .u64)), .v 1 (.sl (.int .u64)), .own 5 (.int .u64), .v 6 (.int .u64), .v 7 (.int .i64)]⟩
noncomputable def fd162 : FD := ⟨162, bodyF Tryz.f162, Tryz.f162.results.toList, Tryz.f162.ntmps, [.val, .val], [.v (.sl (.int .u64)), .v (.sl (.int .u64))], [.v (.sl (.int .u64))], 1, [c162_0, c162_1], 5000, none⟩
noncomputable def h162 : List (En D) := [E101]
noncomputable def G162 : YR D [.v (.sl (.int .u64)), .v (.sl (.int .u64))] → Option (YR D [.v (.sl (.int .u64))]) := sealF (Gof D fd162 (tabH D h162))
noncomputable def E162 : En D := en_ fd162 G162
noncomputable def F162 (x0 x1 : List Int) : Option (List Int) := G162 (x0, x1)
noncomputable def L162 : LL D (YR D fd162.ts) := sealF (LiF D fd162 (tabH D h162))
noncomputable def L162_0 (v0 v1 v5 : List Int) (v6 v7 : Int) : Option (List Int) := L162 c162_0 (v0, v1, v5, v6, v7, ())
noncomputable def L162_1 (v0 v1 v5 : List Int) (v6 v7 : Int) : Option (List Int) := L162 c162_1 (v0, v1, v5, v6, v7, ())
theorem E162_ok : FnOk D PP E162 := ok_ fd162 (l := h162) Tryz.func162 (.cons E101_ok .nil)
/-- pochoirref02.less -/
def c163_0 : Cut := ⟨116, [.v 0 (.sl (.int .u64)), .v 1 (.sl (.int .u64)), .v 5 (.int .i64)]⟩
noncomputable def fd163 : FD := ⟨163, bodyF Tryz.f163, Tryz.f163.results.toList, Tryz.f163.ntmps, [.val, .val], [.v (.sl (.int .u64)), .v (.sl (.int .u64))], [.v (.int .i64)], 1, [c163_0], 5000, none⟩
noncomputable def h163 : List (En D) := []
noncomputable def G163 : YR D [.v (.sl (.int .u64)), .v (.sl (.int .u64))] → Option (YR D [.v (.int .i64)]) := sealF (Gof D fd163 (tabH D h163))
noncomputable def E163 : En D := en_ fd163 G163
noncomputable def F163 (x0 x1 : List Int) : Option Int := G163 (x0, x1)
noncomputable def L163 : LL D (YR D fd163.ts) := sealF (LiF D fd163 (tabH D h163))
noncomputable def L163_0 (v0 v1 : List Int) (v5 : Int) : Option Int := L163 c163_0 (v0, v1, v5, ())
theorem E163_ok : FnOk D PP E163 := ok_ fd163 (l := h163) Tryz.func163 (.nil)
/-- pochoirref02.minus -/
def c164_0 : Cut := ⟨244, [.v 0 (.sl (.int .u64)), .v 1 (.sl (.int .u64)), .own 5 (.int .u64), .v 6 (.int .u64), .v 7 (.int .i64)]⟩
noncomputable def fd164 : FD := ⟨164, bodyF Tryz.f164, Tryz.f164.results.toList, Tryz.f164.ntmps, [.val, .val], [.v (.sl (.int .u64)), .v (.sl (.int .u64))], [.v (.sl (.int .u64))], 1, [c164_0], 5000, none⟩
noncomputable def h164 : List (En D) := [E101]
noncomputable def G164 : YR D [.v (.sl (.int .u64)), .v (.sl (.int .u64))] → Option (YR D [.v (.sl (.int .u64))]) := sealF (Gof D fd164 (tabH D h164))
noncomputable def E164 : En D := en_ fd164 G164
noncomputable def F164 (x0 x1 : List Int) : Option (List Int) := G164 (x0, x1)
noncomputable def L164 : LL D (YR D fd164.ts) := sealF (LiF D fd164 (tabH D h164))
noncomputable def L164_0 (v0 v1 v5 : List Int) (v6 v7 : Int) : Option (List Int) := L164 c164_0 (v0, v1, v5, v6, v7, ())
theorem E164_ok : FnOk D PP E164 := ok_ fd164 (l := h164) Tryz.func164 (.cons E101_ok .nil)
/-- pochoirref02.Add -/
noncomputable def fd102 : FD := ⟨102, bodyF Tryz.f102, Tryz.f102.results.toList, Tryz.f102.ntmps, [.val, .val], [.v (.st 8), .v (.st 8)], [.v (.st 8)], 1, [], 5000, none⟩
noncomputable def h102 : List (En D) := [E105, E162, E163, E164]
noncomputable def G102 : YR D [.v (.st 8), .v (.st 8)] → Option (YR D [.v (.st 8)]) := sealF (Gof D fd102 (tabH D h102))
noncomputable def E102 : En D := en_ fd102 G102
noncomputable def F102 (x0 x1 : S81) : Option (S81) := G102 (x0, x1)
theorem E102_ok : FnOk D PP E102 := ok_ fd102 (l := h102) Tryz.func102 (.cons E105_ok (.cons E162_ok (.cons E163_ok (.cons E164_ok .nil))))
/-- pochoirref05.Mul -/
def c52_0 : Cut := ⟨116, [.v 0 (.sl (.st 8)), .v 1 (.sl (.st 8)), .own 5 (.st 8), .v 6 (.int .i64)]⟩
def c52_1 : Cut := ⟨29844, [.v 0 (.sl (.st 8)), .v 1 (.sl (.st 8)), .own 5 (.st 8), .v 6 (.int .i64), .box 7 7 (.st 8) 0 [], .v 8 (.int .i64)]⟩
noncomputable def fd52 : FD := ⟨52, bodyF Tryz.f52, Tryz.f52.results.toList, Tryz.f52.ntmps, [.val, .val], [.v (.sl (.st 8)), .v (.sl (.st 8))], [.v (.sl (.st 8))], 1, [c52_0, c52_1], 5000, none⟩
noncomputable def h52 : List (En D) := [E53, E102, E103, E104]
noncomputable def G52 : YR D [.v (.sl (.st 8)), .v (.sl (.st 8))] → Option (YR D [.v (.sl (.st 8))]) := sealF (Gof D fd52 (tabH D h52))
noncomputable def E52 : En D := en_ fd52 G52
noncomputable def F52 (x0 x1 : List S81) : Option (List S81) := G52 (x0, x1)
noncomputable def L52 : LL D (YR D fd52.ts) := sealF (LiF D fd52 (tabH D h52))
noncomputable def L52_0 (v0 v1 v5 : List S81) (v6 : Int) : Option (List S81) := L52 c52_0 (v0, v1, v5, v6, ())
noncomputable def L52_1 (v0 v1 v5 : List S81) (v6 : Int) (v7 : S81) (v8 : Int) : Option (List S81) := L52 c52_1 (v0, v1, v5, v6, v7, v8, ())
theorem E52_ok : FnOk D PP E52 := ok_ fd52 (l := h52) Tryz.func52 (.cons E53_ok (.cons E102_ok (.cons E103_ok (.cons E104_ok .nil))))
/-- pochoirref05.Add -/
def c51_0 : Cut := ⟨15, [.own 5 (.st 8)]⟩
def c51_1 : Cut := ⟨116, [.v 0 (.sl (.st 8)), .v 1 (.sl (.st 8)), .own 5 (.st 8), .v 6 (.int .i64)]⟩
def c51_2 : Cut := ⟨233, [.v 0 (.sl (.st 8)), .v 1 (.sl (.st 8)), .own 5 (.st 8), .v 6 (.int .i64)]⟩
noncomputable def fd51 : FD := ⟨51, bodyF Tryz.f51, Tryz.f51.results.toList, Tryz.f51.ntmps, [.val, .val], [.v (.sl (.st 8)), .v (.sl (.st 8))], [.v (.sl (.st 8))], 1, [c51_0, c51_1, c51_2], 5000, none⟩
noncomputable def h51 : List (En D) := [E102, E103, E104]
noncomputable def G51 : YR D [.v (.sl (.st 8)), .v (.sl (.st 8))] → Option (YR D [.v (.sl (.st 8))]) := sealF (Gof D fd51 (tabH D h51))
noncomputable def E51 : En D := en_ fd51 G51
noncomputable def F51 (x0 x1 : List S81) : Option (List S81) := G51 (x0, x1)
noncomputable def L51 : LL D (YR D fd51.ts) := sealF (LiF D fd51 (tabH D h51))
noncomputable def L51_0 (v5 : List S81) : Option (List S81) := L51 c51_0 (v5, ())
noncomputable def L51_1 (v0 v1 v5 : List S81) (v6 : Int) : Option (List S81) := L51 c51_1 (v0, v1, v5, v6, ())
noncomputable def L51_2 (v0 v1 v5 : List S81) (v6 : Int) : Option (List S81) := L51 c51_2 (v0, v1, v5, v6, ())
theorem E51_ok : FnOk D PP E51 := ok_ fd51 (l := h51) Tryz.func51 (.cons E102_ok (.cons E103_ok (.cons E104_ok .nil)))
/-- pochoirref20.square -/
noncomputable def fd54 : FD := ⟨54, bodyF Tryz.f54, Tryz.f54.results.toList, Tryz.f54.ntmps, [.val], [.v (.int .i64)], [.v (.st 8)], 1, [], 5000, none⟩
noncomputable def h54 : List (En D) := [E53, E55]
noncomputable def G54 : YR D [.v (.int .i64)] → Option (YR D [.v (.st 8)]) := sealF (Gof D fd54 (tabH D h54))
noncomputable def E54 : En D := en_ fd54 G54
noncomputable def F54 (x0 : Int) : Option (S81) := G54 (x0)
theorem E54_ok : FnOk D PP E54 := ok_ fd54 (l := h54) Tryz.func54 (.cons E53_ok (.cons E55_ok .nil))
/-- pochoirref20.whole -/
noncomputable def fd57 : FD := ⟨57, bodyF Tryz.f57, Tryz.f57.results.toList, Tryz.f57.ntmps, [.val], [.v (.st 8)], [.v (.sl (.st 8))], 1, [], 5000, none⟩
noncomputable def h57 : List (En D) := [E104]
noncomputable def G57 : YR D [.v (.st 8)] → Option (YR D [.v (.sl (.st 8))]) := sealF (Gof D fd57 (tabH D h57))
noncomputable def E57 : En D := en_ fd57 G57
noncomputable def F57 (x0 : S81) : Option (List S81) := G57 (x0)
theorem E57_ok : FnOk D PP E57 := ok_ fd57 (l := h57) Tryz.func57 (.cons E104_ok .nil)
/-- pochoirref02.Neg -/
noncomputable def fd138 : FD := ⟨138, bodyF Tryz.f138, Tryz.f138.results.toList, Tryz.f138.ntmps, [.val], [.v (.st 8)], [.v (.st 8)], 1, [], 5000, none⟩
noncomputable def h138 : List (En D) := [E105]
noncomputable def G138 : YR D [.v (.st 8)] → Option (YR D [.v (.st 8)]) := sealF (Gof D fd138 (tabH D h138))
noncomputable def E138 : En D := en_ fd138 G138
noncomputable def F138 (x0 : S81) : Option (S81) := G138 (x0)
theorem E138_ok : FnOk D PP E138 := ok_ fd138 (l := h138) Tryz.func138 (.cons E105_ok .nil)
/-- pochoirref05.Neg -/
def c106_0 : Cut := ⟨116, [.v 0 (.sl (.st 8)), .own 3 (.st 8), .v 4 (.int .i64)]⟩
noncomputable def fd106 : FD := ⟨106, bodyF Tryz.f106, Tryz.f106.results.toList, Tryz.f106.ntmps, [.val], [.v (.sl (.st 8))], [.v (.sl (.st 8))], 1, [c106_0], 5000, none⟩
noncomputable def h106 : List (En D) := [E138]
noncomputable def G106 : YR D [.v (.sl (.st 8))] → Option (YR D [.v (.sl (.st 8))]) := sealF (Gof D fd106 (tabH D h106))
noncomputable def E106 : En D := en_ fd106 G106
noncomputable def F106 (x0 : List S81) : Option (List S81) := G106 (x0)
noncomputable def L106 : LL D (YR D fd106.ts) := sealF (LiF D fd106 (tabH D h106))
noncomputable def L106_0 (v0 v3 : List S81) (v4 : Int) : Option (List S81) := L106 c106_0 (v0, v3, v4, ())
theorem E106_ok : FnOk D PP E106 := ok_ fd106 (l := h106) Tryz.func106 (.cons E138_ok .nil)
/-- pochoirref05.Sub -/
noncomputable def fd56 : FD := ⟨56, bodyF Tryz.f56, Tryz.f56.results.toList, Tryz.f56.ntmps, [.val, .val], [.v (.sl (.st 8)), .v (.sl (.st 8))], [.v (.sl (.st 8))], 1, [], 5000, none⟩
noncomputable def h56 : List (En D) := [E51, E106]
noncomputable def G56 : YR D [.v (.sl (.st 8)), .v (.sl (.st 8))] → Option (YR D [.v (.sl (.st 8))]) := sealF (Gof D fd56 (tabH D h56))
noncomputable def E56 : En D := en_ fd56 G56
noncomputable def F56 (x0 x1 : List S81) : Option (List S81) := G56 (x0, x1)
theorem E56_ok : FnOk D PP E56 := ok_ fd56 (l := h56) Tryz.func56 (.cons E51_ok (.cons E106_ok .nil))
/-- pochoirref20.Gap -/
def c27_0 : Cut := ⟨127, [.v 3 (.int .i64), .v 13 (.sl (.st 8)), .box 14 14 (.st 8) 0 []]⟩
noncomputable def fd27 : FD := ⟨27, bodyF Tryz.f27, Tryz.f27.results.toList, Tryz.f27.ntmps, [.val, .val, .val, .val, .val], [.v (.st 0), .v (.st 1), .v (.int .i64), .v (.int .i64), .v (.int .i64)], [.v (.sl (.st 8))], 1, [c27_0], 5000, none⟩
noncomputable def h27 : List (En D) := [E50, E51, E52, E53, E54, E55, E56, E57]
noncomputable def G27 : YR D [.v (.st 0), .v (.st 1), .v (.int .i64), .v (.int .i64), .v (.int .i64)] → Option (YR D [.v (.sl (.st 8))]) := sealF (Gof D fd27 (tabH D h27))
noncomputable def E27 : En D := en_ fd27 G27
noncomputable def F27 (x0 : S24) (x1 : S34) (x2 x3 x4 : Int) : Option (List S81) := G27 (x0, x1, x2, x3, x4)
noncomputable def L27 : LL D (YR D fd27.ts) := sealF (LiF D fd27 (tabH D h27))
noncomputable def L27_0 (v3 : Int) (v13 : List S81) (v14 : S81) : Option (List S81) := L27 c27_0 (v3, v13, v14, ())
theorem E27_ok : FnOk D PP E27 := ok_ fd27 (l := h27) Tryz.func27 (.cons E50_ok (.cons E51_ok (.cons E52_ok (.cons E53_ok (.cons E54_ok (.cons E55_ok (.cons E56_ok (.cons E57_ok .nil))))))))
/-- quad.right -/
def c37_0 : Cut := ⟨51, [.box 1 1 (.st 1) 0 []]⟩
noncomputable def fd37 : FD := ⟨37, bodyF Tryz.f37, Tryz.f37.results.toList, Tryz.f37.ntmps, [.val], [.v (.st 1)], [.v (.bool)], 1, [c37_0], 5000, none⟩
noncomputable def h37 : List (En D) := [E59]
noncomputable def G37 : YR D [.v (.st 1)] → Option (YR D [.v (.bool)]) := sealF (Gof D fd37 (tabH D h37))
noncomputable def E37 : En D := en_ fd37 G37
noncomputable def F37 (x0 : S34) : Option Bool := G37 (x0)
noncomputable def L37 : LL D (YR D fd37.ts) := sealF (LiF D fd37 (tabH D h37))
noncomputable def L37_0 (v1 : S34) : Option Bool := L37 c37_0 (v1, ())
theorem E37_ok : FnOk D PP E37 := ok_ fd37 (l := h37) Tryz.func37 (.cons E59_ok .nil)
/-- quad.asked -/
noncomputable def fd42 : FD := ⟨42, bodyF Tryz.f42, Tryz.f42.results.toList, Tryz.f42.ntmps, [.val, .val, .val, .val], [.v (.st 0), .v (.st 1), .v (.int .i64), .v (.int .i64)], [.v (.int .i64)], 1, [], 5000, none⟩
noncomputable def h42 : List (En D) := [E37, E59]
noncomputable def G42 : YR D [.v (.st 0), .v (.st 1), .v (.int .i64), .v (.int .i64)] → Option (YR D [.v (.int .i64)]) := sealF (Gof D fd42 (tabH D h42))
noncomputable def E42 : En D := en_ fd42 G42
noncomputable def F42 (x0 : S24) (x1 : S34) (x2 x3 : Int) : Option Int := G42 (x0, x1, x2, x3)
theorem E42_ok : FnOk D PP E42 := ok_ fd42 (l := h42) Tryz.func42 (.cons E37_ok (.cons E59_ok .nil))
/-- (line.scale).right -/
noncomputable def fd151 : FD := ⟨151, bodyF Tryz.f151, Tryz.f151.results.toList, Tryz.f151.ntmps, [.val], [.v (.st 13)], [.v (.bool)], 1, [], 5000, none⟩
noncomputable def h151 : List (En D) := []
noncomputable def G151 : YR D [.v (.st 13)] → Option (YR D [.v (.bool)]) := sealF (Gof D fd151 (tabH D h151))
noncomputable def E151 : En D := en_ fd151 G151
noncomputable def F151 (x0 : S168) : Option Bool := G151 (x0)
theorem E151_ok : FnOk D PP E151 := ok_ fd151 (l := h151) Tryz.func151 (.nil)
/-- (line.scale).asked -/
def c140_0 : Cut := ⟨116, [.v 10 (.sl (.st 0)), .v 11 (.int .i64), .v 12 (.int .i64)]⟩
noncomputable def fd140 : FD := ⟨140, bodyF Tryz.f140, Tryz.f140.results.toList, Tryz.f140.ntmps, [.val, .val], [.v (.st 13), .v (.sl (.st 0))], [.v (.int .i64)], 1, [c140_0], 5000, none⟩
noncomputable def h140 : List (En D) := [E59, E151]
noncomputable def G140 : YR D [.v (.st 13), .v (.sl (.st 0))] → Option (YR D [.v (.int .i64)]) := sealF (Gof D fd140 (tabH D h140))
noncomputable def E140 : En D := en_ fd140 G140
noncomputable def F140 (x0 : S168) (x1 : List S24) : Option Int := G140 (x0, x1)
noncomputable def L140 : LL D (YR D fd140.ts) := sealF (LiF D fd140 (tabH D h140))
noncomputable def L140_0 (v10 : List S24) (v11 v12 : Int) : Option Int := L140 c140_0 (v10, v11, v12, ())
theorem E140_ok : FnOk D PP E140 := ok_ fd140 (l := h140) Tryz.func140 (.cons E59_ok (.cons E151_ok .nil))
/-- plane.Dot -/
noncomputable def fd88 : FD := ⟨88, bodyF Tryz.f88, Tryz.f88.results.toList, Tryz.f88.ntmps, [.val, .val, .val], [.v (.st 0), .v (.st 0), .v (.st 0)], [.v (.int .i64), .v (.int .i64)], 2, [], 5000, none⟩
noncomputable def h88 : List (En D) := [E148, E149]
noncomputable def G88 : YR D [.v (.st 0), .v (.st 0), .v (.st 0)] → Option (YR D [.v (.int .i64), .v (.int .i64)]) := sealF (Gof D fd88 (tabH D h88))
noncomputable def E88 : En D := en_ fd88 G88
noncomputable def F88 (x0 x1 x2 : S24) : Option (Int × Int) := G88 (x0, x1, x2)
theorem E88_ok : FnOk D PP E88 := ok_ fd88 (l := h88) Tryz.func88 (.cons E148_ok (.cons E149_ok .nil))
/-- line.ahead -/
noncomputable def fd141 : FD := ⟨141, bodyF Tryz.f141, Tryz.f141.results.toList, Tryz.f141.ntmps, [.val, .val, .val], [.v (.st 0), .v (.st 0), .v (.st 0)], [.v (.bool)], 1, [], 5000, none⟩
noncomputable def h141 : List (En D) := [E88]
noncomputable def G141 : YR D [.v (.st 0), .v (.st 0), .v (.st 0)] → Option (YR D [.v (.bool)]) := sealF (Gof D fd141 (tabH D h141))
noncomputable def E141 : En D := en_ fd141 G141
noncomputable def F141 (x0 x1 x2 : S24) : Option Bool := G141 (x0, x1, x2)
theorem E141_ok : FnOk D PP E141 := ok_ fd141 (l := h141) Tryz.func141 (.cons E88_ok .nil)
/-- plane.Far -/
noncomputable def fd91 : FD := ⟨91, bodyF Tryz.f91, Tryz.f91.results.toList, Tryz.f91.ntmps, [.val, .val], [.v (.st 0), .v (.st 0)], [.v (.int .i64), .v (.int .i64)], 2, [], 5000, none⟩
noncomputable def h91 : List (En D) := [E88]
noncomputable def G91 : YR D [.v (.st 0), .v (.st 0)] → Option (YR D [.v (.int .i64), .v (.int .i64)]) := sealF (Gof D fd91 (tabH D h91))
noncomputable def E91 : En D := en_ fd91 G91
noncomputable def F91 (x0 x1 : S24) : Option (Int × Int) := G91 (x0, x1)
theorem E91_ok : FnOk D PP E91 := ok_ fd91 (l := h91) Tryz.func91 (.cons E88_ok .nil)
/-- math/bits.Add64 -/
noncomputable def G246 : YR D [.v (.int .u64), .v (.int .u64), .v (.int .u64)] → Option (YR D [.v (.int .u64), .v (.int .u64)]) := sealF fun x => bits_Add64 x.1 x.2.1 x.2.2
noncomputable def E246 : En D := ⟨246, [.val, .val, .val], [.v (.int .u64), .v (.int .u64), .v (.int .u64)], [.v (.int .u64), .v (.int .u64)], 2, G246⟩
noncomputable def F246 (x0 x1 x2 : Int) : Option (Int × Int) := G246 (x0, x1, x2)
theorem F246_eq (x0 x1 x2 : Int) : F246 x0 x1 x2 = bits_Add64 x0 x1 x2 := congrFun (sealF_eq _) (x0, x1, x2)
theorem E246_ok : FnOk D PP E246 := bits_Add64_ok Tryz.func246 rfl rfl rfl rfl (by kernel_rfl)
/-- wide.Add -/
noncomputable def fd235 : FD := ⟨235, bodyF Tryz.f235, Tryz.f235.results.toList, Tryz.f235.ntmps, [.val, .val], [.v (.st 9), .v (.st 9)], [.v (.st 9), .v (.int .i64)], 2, [], 5000, none⟩
noncomputable def h235 : List (En D) := [E246]
noncomputable def G235 : YR D [.v (.st 9), .v (.st 9)] → Option (YR D [.v (.st 9), .v (.int .i64)]) := sealF (Gof D fd235 (tabH D h235))
noncomputable def E235 : En D := en_ fd235 G235
noncomputable def F235 (x0 x1 : S102) : Option (S102 × Int) := G235 (x0, x1)
theorem E235_ok : FnOk D PP E235 := ok_ fd235 (l := h235) Tryz.func235 (.cons E246_ok .nil)
/-- line.times -/
noncomputable def fd203 : FD := ⟨203, bodyF Tryz.f203, Tryz.f203.results.toList, Tryz.f203.ntmps, [.val, .val], [.v (.st 9), .v (.int .u64)], [.v (.st 16)], 1, [], 5000, none⟩
noncomputable def h203 : List (En D) := [E78, E93, E235]
noncomputable def G203 : YR D [.v (.st 9), .v (.int .u64)] → Option (YR D [.v (.st 16)]) := sealF (Gof D fd203 (tabH D h203))
noncomputable def E203 : En D := en_ fd203 G203
noncomputable def F203 (x0 : S102) (x1 : Int) : Option (S224) := G203 (x0, x1)
theorem E203_ok : FnOk D PP E203 := ok_ fd203 (l := h203) Tryz.func203 (.cons E78_ok (.cons E93_ok (.cons E235_ok .nil)))
/-- (line.digits).atMost -/
def c204_0 : Cut := ⟨52, [.box 2 2 (.st 16) 0 [], .box 3 3 (.st 16) 0 [], .v 5 (.int .i64)]⟩
noncomputable def fd204 : FD := ⟨204, bodyF Tryz.f204, Tryz.f204.results.toList, Tryz.f204.ntmps, [.val, .val], [.v (.st 16), .v (.st 16)], [.v (.bool)], 1, [c204_0], 5000, none⟩
noncomputable def h204 : List (En D) := []
noncomputable def G204 : YR D [.v (.st 16), .v (.st 16)] → Option (YR D [.v (.bool)]) := sealF (Gof D fd204 (tabH D h204))
noncomputable def E204 : En D := en_ fd204 G204
noncomputable def F204 (x0 x1 : S224) : Option Bool := G204 (x0, x1)
noncomputable def L204 : LL D (YR D fd204.ts) := sealF (LiF D fd204 (tabH D h204))
noncomputable def L204_0 (v2 v3 : S224) (v5 : Int) : Option Bool := L204 c204_0 (v2, v3, v5, ())
theorem E204_ok : FnOk D PP E204 := ok_ fd204 (l := h204) Tryz.func204 (.nil)
/-- (line.scale).level -/
def c152_0 : Cut := ⟨248, [.box 3 3 (.st 13) 0 [], .box 5 5 (.st 9) 0 [], .box 8 8 (.st 16) 0 [], .v 9 (.int .i64), .v 10 (.int .i64)]⟩
noncomputable def fd152 : FD := ⟨152, bodyF Tryz.f152, Tryz.f152.results.toList, Tryz.f152.ntmps, [.val, .val, .val], [.v (.st 13), .v (.st 9), .v (.st 9)], [.v (.int .i64)], 1, [c152_0], 5000, none⟩
noncomputable def h152 : List (En D) := [E203, E204]
noncomputable def G152 : YR D [.v (.st 13), .v (.st 9), .v (.st 9)] → Option (YR D [.v (.int .i64)]) := sealF (Gof D fd152 (tabH D h152))
noncomputable def E152 : En D := en_ fd152 G152
noncomputable def F152 (x0 : S168) (x1 x2 : S102) : Option Int := G152 (x0, x1, x2)
noncomputable def L152 : LL D (YR D fd152.ts) := sealF (LiF D fd152 (tabH D h152))
noncomputable def L152_0 (v3 : S168) (v5 : S102) (v8 : S224) (v9 v10 : Int) : Option Int := L152 c152_0 (v3, v5, v8, v9, v10, ())
theorem E152_ok : FnOk D PP E152 := ok_ fd152 (l := h152) Tryz.func152 (.cons E203_ok (.cons E204_ok .nil))
/-- (line.scale).point -/
noncomputable def fd142 : FD := ⟨142, bodyF Tryz.f142, Tryz.f142.results.toList, Tryz.f142.ntmps, [.val, .val, .val], [.v (.st 13), .v (.st 0), .v (.st 0)], [.v (.int .i64)], 1, [], 5000, none⟩
noncomputable def h142 : List (En D) := [E78, E91, E152]
noncomputable def G142 : YR D [.v (.st 13), .v (.st 0), .v (.st 0)] → Option (YR D [.v (.int .i64)]) := sealF (Gof D fd142 (tabH D h142))
noncomputable def E142 : En D := en_ fd142 G142
noncomputable def F142 (x0 : S168) (x1 x2 : S24) : Option Int := G142 (x0, x1, x2)
theorem E142_ok : FnOk D PP E142 := ok_ fd142 (l := h142) Tryz.func142 (.cons E78_ok (.cons E91_ok (.cons E152_ok .nil)))
/-- plane.Cross -/
noncomputable def fd90 : FD := ⟨90, bodyF Tryz.f90, Tryz.f90.results.toList, Tryz.f90.ntmps, [.val, .val, .val], [.v (.st 0), .v (.st 0), .v (.st 0)], [.v (.int .i64), .v (.int .i64)], 2, [], 5000, none⟩
noncomputable def h90 : List (En D) := [E148, E150]
noncomputable def G90 : YR D [.v (.st 0), .v (.st 0), .v (.st 0)] → Option (YR D [.v (.int .i64), .v (.int .i64)]) := sealF (Gof D fd90 (tabH D h90))
noncomputable def E90 : En D := en_ fd90 G90
noncomputable def F90 (x0 x1 x2 : S24) : Option (Int × Int) := G90 (x0, x1, x2)
theorem E90_ok : FnOk D PP E90 := ok_ fd90 (l := h90) Tryz.func90 (.cons E148_ok (.cons E150_ok .nil))
/-- line.size -/
noncomputable def fd198 : FD := ⟨198, bodyF Tryz.f198, Tryz.f198.results.toList, Tryz.f198.ntmps, [.val], [.v (.int .i64)], [.v (.int .u64)], 1, [], 5000, none⟩
noncomputable def h198 : List (En D) := []
noncomputable def G198 : YR D [.v (.int .i64)] → Option (YR D [.v (.int .u64)]) := sealF (Gof D fd198 (tabH D h198))
noncomputable def E198 : En D := en_ fd198 G198
noncomputable def F198 (x0 : Int) : Option Int := G198 (x0)
theorem E198_ok : FnOk D PP E198 := ok_ fd198 (l := h198) Tryz.func198 (.nil)
/-- (line.scale).beside -/
noncomputable def fd143 : FD := ⟨143, bodyF Tryz.f143, Tryz.f143.results.toList, Tryz.f143.ntmps, [.val, .val, .val, .val], [.v (.st 13), .v (.st 0), .v (.st 0), .v (.st 0)], [.v (.int .i64)], 1, [], 5000, none⟩
noncomputable def h143 : List (En D) := [E78, E90, E91, E93, E152, E198]
noncomputable def G143 : YR D [.v (.st 13), .v (.st 0), .v (.st 0), .v (.st 0)] → Option (YR D [.v (.int .i64)]) := sealF (Gof D fd143 (tabH D h143))
noncomputable def E143 : En D := en_ fd143 G143
noncomputable def F143 (x0 : S168) (x1 x2 x3 : S24) : Option Int := G143 (x0, x1, x2, x3)
theorem E143_ok : FnOk D PP E143 := ok_ fd143 (l := h143) Tryz.func143 (.cons E78_ok (.cons E90_ok (.cons E91_ok (.cons E93_ok (.cons E152_ok (.cons E198_ok .nil))))))
/-- line.Segment -/
noncomputable def fd85 : FD := ⟨85, bodyF Tryz.f85, Tryz.f85.results.toList, Tryz.f85.ntmps, [.val, .val, .val, .val, .val], [.v (.st 0), .v (.st 0), .v (.st 0), .v (.int .i64), .v (.int .i64)], [.v (.int .i64), .v (.int .i64)], 2, [], 5000, none⟩
noncomputable def h85 : List (En D) := [E140, E141, E142, E143]
noncomputable def G85 : YR D [.v (.st 0), .v (.st 0), .v (.st 0), .v (.int .i64), .v (.int .i64)] → Option (YR D [.v (.int .i64), .v (.int .i64)]) := sealF (Gof D fd85 (tabH D h85))
noncomputable def E85 : En D := en_ fd85 G85
noncomputable def F85 (x0 x1 x2 : S24) (x3 x4 : Int) : Option (Int × Int) := G85 (x0, x1, x2, x3, x4)
theorem E85_ok : FnOk D PP E85 := ok_ fd85 (l := h85) Tryz.func85 (.cons E140_ok (.cons E141_ok (.cons E142_ok (.cons E143_ok .nil))))
/-- quad.axis -/
noncomputable def fd99 : FD := ⟨99, bodyF Tryz.f99, Tryz.f99.results.toList, Tryz.f99.ntmps, [.val, .val, .val, .val, .val], [.v (.bool), .v (.int .i64), .v (.int .i64), .v (.int .i64), .v (.int .i64)], [.v (.sl (.st 7))], 1, [], 5000, none⟩
noncomputable def h99 : List (En D) := [E161]
noncomputable def G99 : YR D [.v (.bool), .v (.int .i64), .v (.int .i64), .v (.int .i64), .v (.int .i64)] → Option (YR D [.v (.sl (.st 7))]) := sealF (Gof D fd99 (tabH D h99))
noncomputable def E99 : En D := en_ fd99 G99
noncomputable def F99 (x0 : Bool) (x1 x2 x3 x4 : Int) : Option (List S77) := G99 (x0, x1, x2, x3, x4)
theorem E99_ok : FnOk D PP E99 := ok_ fd99 (l := h99) Tryz.func99 (.cons E161_ok .nil)
/-- quad.far -/
noncomputable def fd47 : FD := ⟨47, bodyF Tryz.f47, Tryz.f47.results.toList, Tryz.f47.ntmps, [.val, .val], [.v (.st 0), .v (.st 1)], [.v (.sl (.st 7))], 1, [], 5000, none⟩
noncomputable def h47 : List (En D) := [E98, E99, E100]
noncomputable def G47 : YR D [.v (.st 0), .v (.st 1)] → Option (YR D [.v (.sl (.st 7))]) := sealF (Gof D fd47 (tabH D h47))
noncomputable def E47 : En D := en_ fd47 G47
noncomputable def F47 (x0 : S24) (x1 : S34) : Option (List S77) := G47 (x0, x1)
theorem E47_ok : FnOk D PP E47 := ok_ fd47 (l := h47) Tryz.func47 (.cons E98_ok (.cons E99_ok (.cons E100_ok .nil)))
/-- quad.small -/
def c144_0 : Cut := ⟨52, [.v 2 (.int .i64), .v 31 (.sl (.int .i64)), .v 32 (.int .i64), .v 33 (.int .i64)]⟩
noncomputable def fd144 : FD := ⟨144, bodyF Tryz.f144, Tryz.f144.results.toList, Tryz.f144.ntmps, [.val, .val, .val], [.v (.st 0), .v (.st 1), .v (.int .i64)], [.v (.bool)], 1, [c144_0], 5000, none⟩
noncomputable def h144 : List (En D) := []
noncomputable def G144 : YR D [.v (.st 0), .v (.st 1), .v (.int .i64)] → Option (YR D [.v (.bool)]) := sealF (Gof D fd144 (tabH D h144))
noncomputable def E144 : En D := en_ fd144 G144
noncomputable def F144 (x0 : S24) (x1 : S34) (x2 : Int) : Option Bool := G144 (x0, x1, x2)
noncomputable def L144 : LL D (YR D fd144.ts) := sealF (LiF D fd144 (tabH D h144))
noncomputable def L144_0 (v2 : Int) (v31 : List Int) (v32 v33 : Int) : Option Bool := L144 c144_0 (v2, v31, v32, v33, ())
theorem E144_ok : FnOk D PP E144 := ok_ fd144 (l := h144) Tryz.func144 (.nil)
/-- quad.times -/
noncomputable def fd146 : FD := ⟨146, bodyF Tryz.f146, Tryz.f146.results.toList, Tryz.f146.ntmps, [.val], [.v (.st 0)], [.v (.st 0)], 1, [], 5000, none⟩
noncomputable def h146 : List (En D) := []
noncomputable def G146 : YR D [.v (.st 0)] → Option (YR D [.v (.st 0)]) := sealF (Gof D fd146 (tabH D h146))
noncomputable def E146 : En D := en_ fd146 G146
noncomputable def F146 (x0 : S24) : Option (S24) := G146 (x0)
theorem E146_ok : FnOk D PP E146 := ok_ fd146 (l := h146) Tryz.func146 (.nil)
/-- (*quad.bounds).leaf -/
noncomputable def fd199 : FD := ⟨199, bodyF Tryz.f199, Tryz.f199.results.toList, Tryz.f199.ntmps, [.ref, .val, .val, .val, .val], [.v (.st 14), .v (.st 0), .v (.st 0), .v (.st 0), .v (.st 0)], [.v (.st 14)], 0, [], 5000, none⟩
noncomputable def h199 : List (En D) := [E85]
noncomputable def G199 : YR D [.v (.st 14), .v (.st 0), .v (.st 0), .v (.st 0), .v (.st 0)] → Option (YR D [.v (.st 14)]) := sealF (Gof D fd199 (tabH D h199))
noncomputable def E199 : En D := en_ fd199 G199
noncomputable def F199 (x0 : S174) (x1 x2 x3 x4 : S24) : Option (S174) := G199 (x0, x1, x2, x3, x4)
theorem E199_ok : FnOk D PP E199 := ok_ fd199 (l := h199) Tryz.func199 (.cons E85_ok .nil)
/-- quad.half -/
noncomputable def fd200 : FD := ⟨200, bodyF Tryz.f200, Tryz.f200.results.toList, Tryz.f200.ntmps, [.val, .val], [.v (.st 0), .v (.st 0)], [.v (.st 0)], 1, [], 5000, none⟩
noncomputable def h200 : List (En D) := []
noncomputable def G200 : YR D [.v (.st 0), .v (.st 0)] → Option (YR D [.v (.st 0)]) := sealF (Gof D fd200 (tabH D h200))
noncomputable def E200 : En D := en_ fd200 G200
noncomputable def F200 (x0 x1 : S24) : Option (S24) := G200 (x0, x1)
theorem E200_ok : FnOk D PP E200 := ok_ fd200 (l := h200) Tryz.func200 (.nil)
/-- (*quad.bounds).piece -/
noncomputable def fd145 : FD := ⟨145, bodyF Tryz.f145, Tryz.f145.results.toList, Tryz.f145.ntmps, [.ref, .val, .val, .val, .val, .val], [.v (.st 14), .v (.st 0), .v (.st 0), .v (.st 0), .v (.st 0), .v (.int .i64)], [.v (.st 14)], 0, [], 5000, none⟩
noncomputable def h145 (G : YR D [.v (.st 14), .v (.st 0), .v (.st 0), .v (.st 0), .v (.st 0), .v (.int .i64)] → Option (YR D [.v (.st 14)])) : List (En D) := [⟨145, [.ref, .val, .val, .val, .val, .val], [.v (.st 14), .v (.st 0), .v (.st 0), .v (.st 0), .v (.st 0), .v (.int .i64)], [.v (.st 14)], 0, G⟩, E199, E200]
noncomputable def G145 : YR D [.v (.st 14), .v (.st 0), .v (.st 0), .v (.st 0), .v (.st 0), .v (.int .i64)] → Option (YR D [.v (.st 14)]) := sealF (Gr D fd145 h145)
theorem h145_mono : TMono (f := fd145) h145 := fun G G' h => .cons h (.cons (fun _ _ q => q) (.cons (fun _ _ q => q) .nil))
noncomputable def E145 : En D := en_ fd145 G145
noncomputable def F145 (x0 : S174) (x1 x2 x3 x4 : S24) (x5 : Int) : Option (S174) := G145 (x0, x1, x2, x3, x4, x5)
theorem E145_ok : FnOk D PP E145 := Gr_ok lw (f := fd145) (l := h145) (fun G => by kernel_rfl) (fun G hG => .cons hG (.cons E199_ok (.cons E200_ok .nil))) Tryz.func145 (by kernel_rfl) (by kernel_rfl) (by kernel_rfl) (enters_of (c := bodyF Tryz.f145) Tryz.func145 (by kernel_rfl) (by kernel_rfl)) (by kernel_rfl) (by kernel_rfl)
noncomputable def F145r (G : YR D [.v (.st 14), .v (.st 0), .v (.st 0), .v (.st 0), .v (.st 0), .v (.int .i64)] → Option (YR D [.v (.st 14)])) (x0 : S174) (x1 x2 x3 x4 : S24) (x5 : Int) : Option (S174) := G (x0, x1, x2, x3, x4, x5)
noncomputable def F145g (G : YR D [.v (.st 14), .v (.st 0), .v (.st 0), .v (.st 0), .v (.st 0), .v (.int .i64)] → Option (YR D [.v (.st 14)])) (x0 : S174) (x1 x2 x3 x4 : S24) (x5 : Int) : Option (S174) := sealF (Gof D fd145 (tabH D (h145 G))) (x0, x1, x2, x3, x4, x5)
theorem F145_n (n : Nat) (x0 : S174) (x1 x2 x3 x4 : S24) (x5 : Int) : F145r (Gn D fd145 h145 (n + 1)) x0 x1 x2 x3 x4 x5 = F145g (Gn D fd145 h145 n) x0 x1 x2 x3 x4 x5 := rfl
theorem F145_of (n : Nat) (x0 : S174) (x1 x2 x3 x4 : S24) (x5 : Int) (y : S174) (h : F145r (Gn D fd145 h145 n) x0 x1 x2 x3 x4 x5 = some y) : F145 x0 x1 x2 x3 x4 x5 = some y := (congrFun (sealF_eq _) (x0, x1, x2, x3, x4, x5)).trans (Gr_of h145_mono h)
/-- quad.rough -/
noncomputable def fd86 : FD := ⟨86, bodyF Tryz.f86, Tryz.f86.results.toList, Tryz.f86.ntmps, [.val, .val, .val, .val], [.v (.st 0), .v (.st 1), .v (.int .i64), .v (.int .i64)], [.v (.int .i64), .v (.int .i64)], 2, [], 5000, none⟩
noncomputable def h86 : List (En D) := [E144, E145, E146]
noncomputable def G86 : YR D [.v (.st 0), .v (.st 1), .v (.int .i64), .v (.int .i64)] → Option (YR D [.v (.int .i64), .v (.int .i64)]) := sealF (Gof D fd86 (tabH D h86))
noncomputable def E86 : En D := en_ fd86 G86
noncomputable def F86 (x0 : S24) (x1 : S34) (x2 x3 : Int) : Option (Int × Int) := G86 (x0, x1, x2, x3)
theorem E86_ok : FnOk D PP E86 := ok_ fd86 (l := h86) Tryz.func86 (.cons E144_ok (.cons E145_ok (.cons E146_ok .nil)))
/-- quad.squared -/
noncomputable def fd95 : FD := ⟨95, bodyF Tryz.f95, Tryz.f95.results.toList, Tryz.f95.ntmps, [.val], [.v (.int .i64)], [.v (.st 7)], 1, [], 5000, none⟩
noncomputable def h95 : List (En D) := [E154, E155]
noncomputable def G95 : YR D [.v (.int .i64)] → Option (YR D [.v (.st 7)]) := sealF (Gof D fd95 (tabH D h95))
noncomputable def E95 : En D := en_ fd95 G95
noncomputable def F95 (x0 : Int) : Option (S77) := G95 (x0)
theorem E95_ok : FnOk D PP E95 := ok_ fd95 (l := h95) Tryz.func95 (.cons E154_ok (.cons E155_ok .nil))
/-- big.Shift -/
def c96_0 : Cut := ⟨500, [.v 1 (.int .i64), .box 2 2 (.st 7) 0 [], .box 4 4 (.st 7) 0 [], .own 5 (.int .u32), .v 6 (.int .u64), .v 24 (.sl (.int .u32)), .v 25 (.int .i64), .v 26 (.int .i64)]⟩
noncomputable def fd96 : FD := ⟨96, bodyF Tryz.f96, Tryz.f96.results.toList, Tryz.f96.ntmps, [.val, .val], [.v (.st 7), .v (.int .i64)], [.v (.st 7)], 1, [c96_0], 5000, none⟩
noncomputable def h96 : List (En D) := [E156]
noncomputable def G96 : YR D [.v (.st 7), .v (.int .i64)] → Option (YR D [.v (.st 7)]) := sealF (Gof D fd96 (tabH D h96))
noncomputable def E96 : En D := en_ fd96 G96
noncomputable def F96 (x0 : S77) (x1 : Int) : Option (S77) := G96 (x0, x1)
noncomputable def L96 : LL D (YR D fd96.ts) := sealF (LiF D fd96 (tabH D h96))
noncomputable def L96_0 (v1 : Int) (v2 v4 : S77) (v5 : List Int) (v6 : Int) (v24 : List Int) (v25 v26 : Int) : Option (S77) := L96 c96_0 (v1, v2, v4, v5, v6, v24, v25, v26, ())
theorem E96_ok : FnOk D PP E96 := ok_ fd96 (l := h96) Tryz.func96 (.cons E156_ok .nil)
/-- quad.less -/
def c46_0 : Cut := ⟨15, [.v 0 (.sl (.st 7)), .v 3 (.int .i64), .box 11 11 (.st 7) 0 []]⟩
noncomputable def fd46 : FD := ⟨46, bodyF Tryz.f46, Tryz.f46.results.toList, Tryz.f46.ntmps, [.val, .val, .val, .val, .val], [.v (.sl (.st 7)), .v (.bool), .v (.int .i64), .v (.int .i64), .v (.int .i64)], [.v (.sl (.st 7))], 1, [c46_0], 5000, none⟩
noncomputable def h46 : List (En D) := [E95, E96, E97, E98]
noncomputable def G46 : YR D [.v (.sl (.st 7)), .v (.bool), .v (.int .i64), .v (.int .i64), .v (.int .i64)] → Option (YR D [.v (.sl (.st 7))]) := sealF (Gof D fd46 (tabH D h46))
noncomputable def E46 : En D := en_ fd46 G46
noncomputable def F46 (x0 : List S77) (x1 : Bool) (x2 x3 x4 : Int) : Option (List S77) := G46 (x0, x1, x2, x3, x4)
noncomputable def L46 : LL D (YR D fd46.ts) := sealF (LiF D fd46 (tabH D h46))
noncomputable def L46_0 (v0 : List S77) (v3 : Int) (v11 : S77) : Option (List S77) := L46 c46_0 (v0, v3, v11, ())
theorem E46_ok : FnOk D PP E46 := ok_ fd46 (l := h46) Tryz.func46 (.cons E95_ok (.cons E96_ok (.cons E97_ok (.cons E98_ok .nil))))
/-- slices.Clone[[]api.Big,api.Big] -/
noncomputable def fd245 : FD := ⟨245, bodyF Tryz.f245, Tryz.f245.results.toList, Tryz.f245.ntmps, [.val], [.v (.sl (.st 7))], [.v (.sl (.st 7))], 1, [], 5000, some ⟨[.val], [(0, none)]⟩⟩
noncomputable def G245 : YR D [.v (.sl (.st 7))] → Option (YR D [.v (.sl (.st 7))]) := sealF fun x => grd (fit (0 + x.length) 32) (some x)
noncomputable def E245 : En D := ⟨245, [.val], [.v (.sl (.st 7))], [.v (.sl (.st 7))], 1, G245⟩
noncomputable def F245 (x0 : List S77) : Option (List S77) := G245 (x0)
theorem F245_eq (x0 : List S77) : F245 x0 = grd (fit (0 + x0.length) 32) (some x0) := congrFun (sealF_eq _) x0
theorem E245_ok : FnOk D PP E245 := by
 refine FnX.ok (xm := ⟨[.val], [(0, none)]⟩) (FnX.rows (t := .st 7) (fun y hy => ?_) (fun y hy => ?_) (fun a l y hy => ?_)) (by kernel_rfl)
 ·obtain rfl : [] = y := Option.some.inj ((show some [] = grd (fit (0 + 0) 32) (some []) by kernel_rfl).trans hy)
  exact fdSX lw fd245 Tryz.func245 (by kernel_rfl) (by kernel_rfl) (by kernel_rfl) (enters_of (c := bodyF Tryz.f245) Tryz.func245 (by kernel_rfl) (by kernel_rfl)) (by kernel_rfl) rfl (by kernel_rfl)
 ·obtain rfl : [] = y := Option.some.inj ((show some [] = grd (fit (0 + 0) 32) (some []) by kernel_rfl).trans hy)
  exact fdSX lw fd245 Tryz.func245 (by kernel_rfl) (by kernel_rfl) (by kernel_rfl) (enters_of (c := bodyF Tryz.f245) Tryz.func245 (by kernel_rfl) (by kernel_rfl)) (by kernel_rfl) rfl (by kernel_rfl)
 ·exact fdSX lw fd245 Tryz.func245 (by kernel_rfl) (by kernel_rfl) (by kernel_rfl) (enters_of (c := bodyF Tryz.f245) Tryz.func245 (by kernel_rfl) (by kernel_rfl)) (by kernel_rfl) rfl ((show entW D fd245 (tabH D []) (LiF D fd245 (tabH D [])) [.c (.lst (.st 7) (a :: l))] = grd (fit (0 + (a :: l).length) 32) (some (a :: l)) by kernel_rfl).trans hy)
/-- sturm.scaled -/
def c233_0 : Cut := ⟨244, [.v 2 (.bool), .box 4 4 (.st 7) 0 [], .own 7 (.st 7), .box 8 8 (.st 7) 0 [], .v 15 (.int .i64), .v 16 (.int .i64)]⟩
def c233_1 : Cut := ⟨31335, [.v 2 (.bool), .box 4 4 (.st 7) 0 [], .own 7 (.st 7), .box 8 8 (.st 7) 0 [], .v 10 (.int .i64), .v 15 (.int .i64), .v 16 (.int .i64)]⟩
noncomputable def fd233 : FD := ⟨233, bodyF Tryz.f233, Tryz.f233.results.toList, Tryz.f233.ntmps, [.val, .val, .val], [.v (.sl (.st 7)), .v (.st 7), .v (.bool)], [.v (.sl (.st 7))], 1, [c233_0, c233_1], 5000, none⟩
noncomputable def h233 : List (En D) := [E154, E155, E245]
noncomputable def G233 : YR D [.v (.sl (.st 7)), .v (.st 7), .v (.bool)] → Option (YR D [.v (.sl (.st 7))]) := sealF (Gof D fd233 (tabH D h233))
noncomputable def E233 : En D := en_ fd233 G233
noncomputable def F233 (x0 : List S77) (x1 : S77) (x2 : Bool) : Option (List S77) := G233 (x0, x1, x2)
noncomputable def L233 : LL D (YR D fd233.ts) := sealF (LiF D fd233 (tabH D h233))
noncomputable def L233_0 (v2 : Bool) (v4 : S77) (v7 : List S77) (v8 : S77) (v15 v16 : Int) : Option (List S77) := L233 c233_0 (v2, v4, v7, v8, v15, v16, ())
noncomputable def L233_1 (v2 : Bool) (v4 : S77) (v7 : List S77) (v8 : S77) (v10 v15 v16 : Int) : Option (List S77) := L233 c233_1 (v2, v4, v7, v8, v10, v15, v16, ())
theorem E233_ok : FnOk D PP E233 := ok_ fd233 (l := h233) Tryz.func233 (.cons E154_ok (.cons E155_ok (.cons E245_ok .nil)))
/-- sturm.moved -/
def c234_0 : Cut := ⟨116, [.box 3 3 (.st 7) 0 [], .own 5 (.st 7), .v 11 (.int .i64), .v 12 (.int .i64)]⟩
def c234_1 : Cut := ⟨29900, [.box 3 3 (.st 7) 0 [], .own 5 (.st 7), .v 6 (.int .i64), .v 7 (.int .i64), .v 11 (.int .i64), .v 12 (.int .i64)]⟩
noncomputable def fd234 : FD := ⟨234, bodyF Tryz.f234, Tryz.f234.results.toList, Tryz.f234.ntmps, [.val, .val], [.v (.sl (.st 7)), .v (.st 7)], [.v (.sl (.st 7))], 1, [c234_0, c234_1], 5000, none⟩
noncomputable def h234 : List (En D) := [E154, E159, E245]
noncomputable def G234 : YR D [.v (.sl (.st 7)), .v (.st 7)] → Option (YR D [.v (.sl (.st 7))]) := sealF (Gof D fd234 (tabH D h234))
noncomputable def E234 : En D := en_ fd234 G234
noncomputable def F234 (x0 : List S77) (x1 : S77) : Option (List S77) := G234 (x0, x1)
noncomputable def L234 : LL D (YR D fd234.ts) := sealF (LiF D fd234 (tabH D h234))
noncomputable def L234_0 (v3 : S77) (v5 : List S77) (v11 v12 : Int) : Option (List S77) := L234 c234_0 (v3, v5, v11, v12, ())
noncomputable def L234_1 (v3 : S77) (v5 : List S77) (v6 v7 v11 v12 : Int) : Option (List S77) := L234 c234_1 (v3, v5, v6, v7, v11, v12, ())
theorem E234_ok : FnOk D PP E234 := ok_ fd234 (l := h234) Tryz.func234 (.cons E154_ok (.cons E159_ok (.cons E245_ok .nil)))
/-- sturm.unit -/
noncomputable def fd202 : FD := ⟨202, bodyF Tryz.f202, Tryz.f202.results.toList, Tryz.f202.ntmps, [.val, .val, .val], [.v (.sl (.st 7)), .v (.st 2), .v (.st 2)], [.v (.sl (.st 7))], 1, [], 5000, none⟩
noncomputable def h202 : List (En D) := [E100, E154, E155, E158, E233, E234]
noncomputable def G202 : YR D [.v (.sl (.st 7)), .v (.st 2), .v (.st 2)] → Option (YR D [.v (.sl (.st 7))]) := sealF (Gof D fd202 (tabH D h202))
noncomputable def E202 : En D := en_ fd202 G202
noncomputable def F202 (x0 : List S77) (x1 x2 : S37) : Option (List S77) := G202 (x0, x1, x2)
theorem E202_ok : FnOk D PP E202 := ok_ fd202 (l := h202) Tryz.func202 (.cons E100_ok (.cons E154_ok (.cons E155_ok (.cons E158_ok (.cons E233_ok (.cons E234_ok .nil))))))
/-- sturm.below -/
def c201_0 : Cut := ⟨31, [.v 0 (.sl (.st 7)), .box 3 3 (.st 2) 0 [], .box 4 4 (.st 2) 0 [], .box 5 5 (.st 2) 0 []]⟩
noncomputable def fd201 : FD := ⟨201, bodyF Tryz.f201, Tryz.f201.results.toList, Tryz.f201.ntmps, [.val], [.v (.sl (.st 7))], [.v (.bool)], 1, [c201_0], 5000, none⟩
noncomputable def h201 (G : YR D [.v (.sl (.st 7))] → Option (YR D [.v (.bool)])) : List (En D) := [E169, E170, E171, ⟨201, [.val], [.v (.sl (.st 7))], [.v (.bool)], 1, G⟩, E202, E232]
noncomputable def G201 : YR D [.v (.sl (.st 7))] → Option (YR D [.v (.bool)]) := sealF (Gr D fd201 h201)
theorem h201_mono : TMono (f := fd201) h201 := fun G G' h => .cons (fun _ _ q => q) (.cons (fun _ _ q => q) (.cons (fun _ _ q => q) (.cons h (.cons (fun _ _ q => q) (.cons (fun _ _ q => q) .nil)))))
noncomputable def E201 : En D := en_ fd201 G201
noncomputable def F201 (x0 : List S77) : Option Bool := G201 (x0)
theorem E201_ok : FnOk D PP E201 := Gr_ok lw (f := fd201) (l := h201) (fun G => by kernel_rfl) (fun G hG => .cons E169_ok (.cons E170_ok (.cons E171_ok (.cons hG (.cons E202_ok (.cons E232_ok .nil)))))) Tryz.func201 (by kernel_rfl) (by kernel_rfl) (by kernel_rfl) (enters_of (c := bodyF Tryz.f201) Tryz.func201 (by kernel_rfl) (by kernel_rfl)) (by kernel_rfl) (by kernel_rfl)
noncomputable def F201r (G : YR D [.v (.sl (.st 7))] → Option (YR D [.v (.bool)])) (x0 : List S77) : Option Bool := G (x0)
noncomputable def F201g (G : YR D [.v (.sl (.st 7))] → Option (YR D [.v (.bool)])) (x0 : List S77) : Option Bool := sealF (Gof D fd201 (tabH D (h201 G))) (x0)
noncomputable def L201 (G : YR D [.v (.sl (.st 7))] → Option (YR D [.v (.bool)])) : LL D (YR D fd201.ts) := sealF (LiF D fd201 (tabH D (h201 G)))
noncomputable def L201_0 (G : YR D [.v (.sl (.st 7))] → Option (YR D [.v (.bool)])) (v0 : List S77) (v3 v4 v5 : S37) : Option Bool := L201 G c201_0 (v0, v3, v4, v5, ())
theorem F201_n (n : Nat) (x0 : List S77) : F201r (Gn D fd201 h201 (n + 1)) x0 = F201g (Gn D fd201 h201 n) x0 := rfl
theorem F201_of (n : Nat) (x0 : List S77) (y : Bool) (h : F201r (Gn D fd201 h201 n) x0 = some y) : F201 x0 = some y := (congrFun (sealF_eq _) (x0)).trans (Gr_of h201_mono h)
/-- sturm.Negative -/
noncomputable def fd147 : FD := ⟨147, bodyF Tryz.f147, Tryz.f147.results.toList, Tryz.f147.ntmps, [.val, .val, .val], [.v (.sl (.st 7)), .v (.st 2), .v (.st 2)], [.v (.bool), .v (.int .i64)], 2, [], 5000, none⟩
noncomputable def h147 : List (En D) := [E168, E201, E202]
noncomputable def G147 : YR D [.v (.sl (.st 7)), .v (.st 2), .v (.st 2)] → Option (YR D [.v (.bool), .v (.int .i64)]) := sealF (Gof D fd147 (tabH D h147))
noncomputable def E147 : En D := en_ fd147 G147
noncomputable def F147 (x0 : List S77) (x1 x2 : S37) : Option (Bool × Int) := G147 (x0, x1, x2)
theorem E147_ok : FnOk D PP E147 := ok_ fd147 (l := h147) Tryz.func147 (.cons E168_ok (.cons E201_ok (.cons E202_ok .nil)))
/-- quad.nearer -/
noncomputable def fd87 : FD := ⟨87, bodyF Tryz.f87, Tryz.f87.results.toList, Tryz.f87.ntmps, [.val, .val, .val, .val], [.v (.sl (.st 7)), .v (.int .i64), .v (.int .i64), .v (.int .i64)], [.v (.bool)], 1, [], 5000, none⟩
noncomputable def h87 : List (En D) := [E46, E147]
noncomputable def G87 : YR D [.v (.sl (.st 7)), .v (.int .i64), .v (.int .i64), .v (.int .i64)] → Option (YR D [.v (.bool)]) := sealF (Gof D fd87 (tabH D h87))
noncomputable def E87 : En D := en_ fd87 G87
noncomputable def F87 (x0 : List S77) (x1 x2 x3 : Int) : Option Bool := G87 (x0, x1, x2, x3)
theorem E87_ok : FnOk D PP E87 := ok_ fd87 (l := h87) Tryz.func87 (.cons E46_ok (.cons E147_ok .nil))
/-- quad.level -/
def c43_0 : Cut := ⟨248, [.v 2 (.int .i64), .v 3 (.int .i64), .v 11 (.sl (.st 7)), .v 12 (.int .i64), .v 13 (.int .i64)]⟩
noncomputable def fd43 : FD := ⟨43, bodyF Tryz.f43, Tryz.f43.results.toList, Tryz.f43.ntmps, [.val, .val, .val, .val], [.v (.st 0), .v (.st 1), .v (.int .i64), .v (.int .i64)], [.v (.int .i64)], 1, [c43_0], 5000, none⟩
noncomputable def h43 : List (En D) := [E47, E85, E86, E87]
noncomputable def G43 : YR D [.v (.st 0), .v (.st 1), .v (.int .i64), .v (.int .i64)] → Option (YR D [.v (.int .i64)]) := sealF (Gof D fd43 (tabH D h43))
noncomputable def E43 : En D := en_ fd43 G43
noncomputable def F43 (x0 : S24) (x1 : S34) (x2 x3 : Int) : Option Int := G43 (x0, x1, x2, x3)
noncomputable def L43 : LL D (YR D fd43.ts) := sealF (LiF D fd43 (tabH D h43))
noncomputable def L43_0 (v2 v3 : Int) (v11 : List S77) (v12 v13 : Int) : Option Int := L43 c43_0 (v2, v3, v11, v12, v13, ())
theorem E43_ok : FnOk D PP E43 := ok_ fd43 (l := h43) Tryz.func43 (.cons E47_ok (.cons E85_ok (.cons E86_ok (.cons E87_ok .nil))))
/-- quad.Level -/
noncomputable def fd22 : FD := ⟨22, bodyF Tryz.f22, Tryz.f22.results.toList, Tryz.f22.ntmps, [.val, .val, .val, .val], [.v (.st 0), .v (.st 1), .v (.int .i64), .v (.int .i64)], [.v (.int .i64), .v (.int .i64)], 2, [], 5000, none⟩
noncomputable def h22 : List (En D) := [E42, E43]
noncomputable def G22 : YR D [.v (.st 0), .v (.st 1), .v (.int .i64), .v (.int .i64)] → Option (YR D [.v (.int .i64), .v (.int .i64)]) := sealF (Gof D fd22 (tabH D h22))
noncomputable def E22 : En D := en_ fd22 G22
noncomputable def F22 (x0 : S24) (x1 : S34) (x2 x3 : Int) : Option (Int × Int) := G22 (x0, x1, x2, x3)
theorem E22_ok : FnOk D PP E22 := ok_ fd22 (l := h22) Tryz.func22 (.cons E42_ok (.cons E43_ok .nil))
/-- quad.along -/
def c39_0 : Cut := ⟨15, [.box 10 10 (.st 2) 0 [], .v 11 (.int .i64), .v 12 (.int .i64)]⟩
noncomputable def fd39 : FD := ⟨39, bodyF Tryz.f39, Tryz.f39.results.toList, Tryz.f39.ntmps, [.val, .val, .val, .val, .val], [.v (.bool), .v (.int .i64), .v (.int .i64), .v (.int .i64), .v (.st 2)], [.v (.st 2)], 1, [c39_0], 5000, none⟩
noncomputable def h39 : List (En D) := [E80]
noncomputable def G39 : YR D [.v (.bool), .v (.int .i64), .v (.int .i64), .v (.int .i64), .v (.st 2)] → Option (YR D [.v (.st 2)]) := sealF (Gof D fd39 (tabH D h39))
noncomputable def E39 : En D := en_ fd39 G39
noncomputable def F39 (x0 : Bool) (x1 x2 x3 : Int) (x4 : S37) : Option (S37) := G39 (x0, x1, x2, x3, x4)
noncomputable def L39 : LL D (YR D fd39.ts) := sealF (LiF D fd39 (tabH D h39))
noncomputable def L39_0 (v10 : S37) (v11 v12 : Int) : Option (S37) := L39 c39_0 (v10, v11, v12, ())
theorem E39_ok : FnOk D PP E39 := ok_ fd39 (l := h39) Tryz.func39 (.cons E80_ok .nil)
/-- quad.At -/
def c19_0 : Cut := ⟨7, [.box 2 2 (.st 1) 0 [], .box 3 3 (.st 2) 0 [], .box 4 4 (.st 2) 0 [], .box 5 5 (.st 2) 0 []]⟩
noncomputable def fd19 : FD := ⟨19, bodyF Tryz.f19, Tryz.f19.results.toList, Tryz.f19.ntmps, [.val, .val], [.v (.st 1), .v (.st 2)], [.v (.st 2), .v (.st 2), .v (.int .i64)], 3, [c19_0], 5000, none⟩
noncomputable def h19 : List (En D) := [E37, E38, E39]
noncomputable def G19 : YR D [.v (.st 1), .v (.st 2)] → Option (YR D [.v (.st 2), .v (.st 2), .v (.int .i64)]) := sealF (Gof D fd19 (tabH D h19))
noncomputable def E19 : En D := en_ fd19 G19
noncomputable def F19 (x0 : S34) (x1 : S37) : Option (S37 × S37 × Int) := G19 (x0, x1)
noncomputable def L19 : LL D (YR D fd19.ts) := sealF (LiF D fd19 (tabH D h19))
noncomputable def L19_0 (v2 : S34) (v3 v4 v5 : S37) : Option (S37 × S37 × Int) := L19 c19_0 (v2, v3, v4, v5, ())
theorem E19_ok : FnOk D PP E19 := ok_ fd19 (l := h19) Tryz.func19 (.cons E37_ok (.cons E38_ok (.cons E39_ok .nil)))
/-- quad.next -/
noncomputable def fd44 : FD := ⟨44, bodyF Tryz.f44, Tryz.f44.results.toList, Tryz.f44.ntmps, [.val, .val, .val, .val], [.v (.st 0), .v (.st 0), .v (.st 0), .v (.bool)], [.v (.st 0)], 1, [], 5000, none⟩
noncomputable def h44 : List (En D) := []
noncomputable def G44 : YR D [.v (.st 0), .v (.st 0), .v (.st 0), .v (.bool)] → Option (YR D [.v (.st 0)]) := sealF (Gof D fd44 (tabH D h44))
noncomputable def E44 : En D := en_ fd44 G44
noncomputable def F44 (x0 x1 x2 : S24) (x3 : Bool) : Option (S24) := G44 (x0, x1, x2, x3)
theorem E44_ok : FnOk D PP E44 := ok_ fd44 (l := h44) Tryz.func44 (.nil)
/-- line.Point -/
noncomputable def fd89 : FD := ⟨89, bodyF Tryz.f89, Tryz.f89.results.toList, Tryz.f89.ntmps, [.val, .val, .val, .val], [.v (.st 0), .v (.st 0), .v (.int .i64), .v (.int .i64)], [.v (.int .i64), .v (.int .i64)], 2, [], 5000, none⟩
noncomputable def h89 : List (En D) := [E140, E142]
noncomputable def G89 : YR D [.v (.st 0), .v (.st 0), .v (.int .i64), .v (.int .i64)] → Option (YR D [.v (.int .i64), .v (.int .i64)]) := sealF (Gof D fd89 (tabH D h89))
noncomputable def E89 : En D := en_ fd89 G89
noncomputable def F89 (x0 x1 : S24) (x2 x3 : Int) : Option (Int × Int) := G89 (x0, x1, x2, x3)
theorem E89_ok : FnOk D PP E89 := ok_ fd89 (l := h89) Tryz.func89 (.cons E140_ok (.cons E142_ok .nil))
/-- quad.size -/
noncomputable def fd94 : FD := ⟨94, bodyF Tryz.f94, Tryz.f94.results.toList, Tryz.f94.ntmps, [.val], [.v (.int .i64)], [.v (.int .u64)], 1, [], 5000, none⟩
noncomputable def h94 : List (En D) := []
noncomputable def G94 : YR D [.v (.int .i64)] → Option (YR D [.v (.int .u64)]) := sealF (Gof D fd94 (tabH D h94))
noncomputable def E94 : En D := en_ fd94 G94
noncomputable def F94 (x0 : Int) : Option Int := G94 (x0)
theorem E94_ok : FnOk D PP E94 := ok_ fd94 (l := h94) Tryz.func94 (.nil)
/-- line.Of -/
noncomputable def fd92 : FD := ⟨92, bodyF Tryz.f92, Tryz.f92.results.toList, Tryz.f92.ntmps, [.val, .val, .val, .val], [.v (.st 9), .v (.st 9), .v (.int .i64), .v (.int .i64)], [.v (.int .i64), .v (.int .i64)], 2, [], 5000, none⟩
noncomputable def h92 : List (En D) := [E151, E152]
noncomputable def G92 : YR D [.v (.st 9), .v (.st 9), .v (.int .i64), .v (.int .i64)] → Option (YR D [.v (.int .i64), .v (.int .i64)]) := sealF (Gof D fd92 (tabH D h92))
noncomputable def E92 : En D := en_ fd92 G92
noncomputable def F92 (x0 x1 : S102) (x2 x3 : Int) : Option (Int × Int) := G92 (x0, x1, x2, x3)
theorem E92_ok : FnOk D PP E92 := ok_ fd92 (l := h92) Tryz.func92 (.cons E151_ok (.cons E152_ok .nil))
/-- quad.beyond -/
noncomputable def fd45 : FD := ⟨45, bodyF Tryz.f45, Tryz.f45.results.toList, Tryz.f45.ntmps, [.val, .val, .val, .val, .val], [.v (.st 0), .v (.st 0), .v (.st 0), .v (.int .i64), .v (.int .i64)], [.v (.int .i64)], 1, [], 5000, none⟩
noncomputable def h45 : List (En D) := [E78, E88, E89, E90, E91, E92, E93, E94]
noncomputable def G45 : YR D [.v (.st 0), .v (.st 0), .v (.st 0), .v (.int .i64), .v (.int .i64)] → Option (YR D [.v (.int .i64)]) := sealF (Gof D fd45 (tabH D h45))
noncomputable def E45 : En D := en_ fd45 G45
noncomputable def F45 (x0 x1 x2 : S24) (x3 x4 : Int) : Option Int := G45 (x0, x1, x2, x3, x4)
theorem E45_ok : FnOk D PP E45 := ok_ fd45 (l := h45) Tryz.func45 (.cons E78_ok (.cons E88_ok (.cons E89_ok (.cons E90_ok (.cons E91_ok (.cons E92_ok (.cons E93_ok (.cons E94_ok .nil))))))))
/-- quad.Extended -/
noncomputable def fd23 : FD := ⟨23, bodyF Tryz.f23, Tryz.f23.results.toList, Tryz.f23.ntmps, [.val, .val, .val, .val], [.v (.st 0), .v (.st 1), .v (.int .i64), .v (.int .i64)], [.v (.int .i64), .v (.int .i64)], 2, [], 5000, none⟩
noncomputable def h23 : List (En D) := [E42, E43, E44, E45]
noncomputable def G23 : YR D [.v (.st 0), .v (.st 1), .v (.int .i64), .v (.int .i64)] → Option (YR D [.v (.int .i64), .v (.int .i64)]) := sealF (Gof D fd23 (tabH D h23))
noncomputable def E23 : En D := en_ fd23 G23
noncomputable def F23 (x0 : S24) (x1 : S34) (x2 x3 : Int) : Option (Int × Int) := G23 (x0, x1, x2, x3)
theorem E23_ok : FnOk D PP E23 := ok_ fd23 (l := h23) Tryz.func23 (.cons E42_ok (.cons E43_ok (.cons E44_ok (.cons E45_ok .nil))))
/-- pochoirlaw20.awake -/
noncomputable def fd18 : FD := ⟨18, bodyF Tryz.f18, Tryz.f18.results.toList, Tryz.f18.ntmps, [], [], [.v (.bool)], 1, [], 5000, none⟩
noncomputable def h18 : List (En D) := [E19, E22, E23]
noncomputable def G18 : YR D [] → Option (YR D [.v (.bool)]) := sealF (Gof D fd18 (tabH D h18))
noncomputable def E18 : En D := en_ fd18 G18
noncomputable def F18 : Option Bool := G18 ()
theorem E18_ok : FnOk D PP E18 := ok_ fd18 (l := h18) Tryz.func18 (.cons E19_ok (.cons E22_ok (.cons E23_ok .nil)))
/-- pochoirref19.Right -/
noncomputable def fd21 : FD := ⟨21, bodyF Tryz.f21, Tryz.f21.results.toList, Tryz.f21.ntmps, [.val, .val], [.v (.int .i64), .v (.int .i64)], [.v (.bool)], 1, [], 5000, none⟩
noncomputable def h21 : List (En D) := []
noncomputable def G21 : YR D [.v (.int .i64), .v (.int .i64)] → Option (YR D [.v (.bool)]) := sealF (Gof D fd21 (tabH D h21))
noncomputable def E21 : En D := en_ fd21 G21
noncomputable def F21 (x0 x1 : Int) : Option Bool := G21 (x0, x1)
theorem E21_ok : FnOk D PP E21 := ok_ fd21 (l := h21) Tryz.func21 (.nil)
/-- quad.Gap -/
def c24_0 : Cut := ⟨7, [.v 2 (.int .i64), .v 3 (.int .i64), .v 4 (.int .i64), .box 5 5 (.st 0) 0 [], .box 6 6 (.st 1) 0 []]⟩
noncomputable def fd24 : FD := ⟨24, bodyF Tryz.f24, Tryz.f24.results.toList, Tryz.f24.ntmps, [.val, .val, .val, .val, .val], [.v (.st 0), .v (.st 1), .v (.int .i64), .v (.int .i64), .v (.int .i64)], [.v (.sl (.st 7)), .v (.int .i64)], 2, [c24_0], 5000, none⟩
noncomputable def h24 : List (En D) := [E42, E46, E47]
noncomputable def G24 : YR D [.v (.st 0), .v (.st 1), .v (.int .i64), .v (.int .i64), .v (.int .i64)] → Option (YR D [.v (.sl (.st 7)), .v (.int .i64)]) := sealF (Gof D fd24 (tabH D h24))
noncomputable def E24 : En D := en_ fd24 G24
noncomputable def F24 (x0 : S24) (x1 : S34) (x2 x3 x4 : Int) : Option (List S77 × Int) := G24 (x0, x1, x2, x3, x4)
noncomputable def L24 : LL D (YR D fd24.ts) := sealF (LiF D fd24 (tabH D h24))
noncomputable def L24_0 (v2 v3 v4 : Int) (v5 : S24) (v6 : S34) : Option (List S77 × Int) := L24 c24_0 (v2, v3, v4, v5, v6, ())
theorem E24_ok : FnOk D PP E24 := ok_ fd24 (l := h24) Tryz.func24 (.cons E42_ok (.cons E46_ok (.cons E47_ok .nil)))
/-- pochoirref20.May -/
noncomputable def fd25 : FD := ⟨25, bodyF Tryz.f25, Tryz.f25.results.toList, Tryz.f25.ntmps, [.val, .val, .val, .val], [.v (.st 0), .v (.st 1), .v (.int .i64), .v (.int .i64)], [.v (.bool)], 1, [], 5000, none⟩
noncomputable def h25 : List (En D) := [E21, E31, E35]
noncomputable def G25 : YR D [.v (.st 0), .v (.st 1), .v (.int .i64), .v (.int .i64)] → Option (YR D [.v (.bool)]) := sealF (Gof D fd25 (tabH D h25))
noncomputable def E25 : En D := en_ fd25 G25
noncomputable def F25 (x0 : S24) (x1 : S34) (x2 x3 : Int) : Option Bool := G25 (x0, x1, x2, x3)
theorem E25_ok : FnOk D PP E25 := ok_ fd25 (l := h25) Tryz.func25 (.cons E21_ok (.cons E31_ok (.cons E35_ok .nil)))
/-- pochoirref02.To -/
def c49_0 : Cut := ⟨116, [.box 1 1 (.st 8) 0 [], .box 2 2 (.st 7) 0 [], .box 3 3 (.st 7) 0 [(1, none)], .v 4 (.int .i64)]⟩
noncomputable def fd49 : FD := ⟨49, bodyF Tryz.f49, Tryz.f49.results.toList, Tryz.f49.ntmps, [.val], [.v (.st 8)], [.v (.st 7)], 1, [c49_0], 5000, none⟩
noncomputable def h49 : List (En D) := [E101]
noncomputable def G49 : YR D [.v (.st 8)] → Option (YR D [.v (.st 7)]) := sealF (Gof D fd49 (tabH D h49))
noncomputable def E49 : En D := en_ fd49 G49
noncomputable def F49 (x0 : S81) : Option (S77) := G49 (x0)
noncomputable def L49 : LL D (YR D fd49.ts) := sealF (LiF D fd49 (tabH D h49))
noncomputable def L49_0 (v1 : S81) (v2 v3 : S77) (v4 : Int) : Option (S77) := L49 c49_0 (v1, v2, v3, v4, ())
theorem E49_ok : FnOk D PP E49 := ok_ fd49 (l := h49) Tryz.func49 (.cons E101_ok .nil)
/-- pochoirref02.Same -/
def c48_0 : Cut := ⟨116, [.box 2 2 (.st 7) 0 [], .box 3 3 (.st 7) 0 [], .v 5 (.int .i64)]⟩
noncomputable def fd48 : FD := ⟨48, bodyF Tryz.f48, Tryz.f48.results.toList, Tryz.f48.ntmps, [.val, .val], [.v (.st 7), .v (.st 7)], [.v (.bool)], 1, [c48_0], 5000, none⟩
noncomputable def h48 : List (En D) := []
noncomputable def G48 : YR D [.v (.st 7), .v (.st 7)] → Option (YR D [.v (.bool)]) := sealF (Gof D fd48 (tabH D h48))
noncomputable def E48 : En D := en_ fd48 G48
noncomputable def F48 (x0 x1 : S77) : Option Bool := G48 (x0, x1)
noncomputable def L48 : LL D (YR D fd48.ts) := sealF (LiF D fd48 (tabH D h48))
noncomputable def L48_0 (v2 v3 : S77) (v5 : Int) : Option Bool := L48 c48_0 (v2, v3, v5, ())
theorem E48_ok : FnOk D PP E48 := ok_ fd48 (l := h48) Tryz.func48 (.nil)
/-- pochoirref05.Same -/
def c26_0 : Cut := ⟨116, [.v 0 (.sl (.st 7)), .v 1 (.sl (.st 8)), .v 5 (.int .i64)]⟩
noncomputable def fd26 : FD := ⟨26, bodyF Tryz.f26, Tryz.f26.results.toList, Tryz.f26.ntmps, [.val, .val], [.v (.sl (.st 7)), .v (.sl (.st 8))], [.v (.bool)], 1, [c26_0], 5000, none⟩
noncomputable def h26 : List (En D) := [E48, E49]
noncomputable def G26 : YR D [.v (.sl (.st 7)), .v (.sl (.st 8))] → Option (YR D [.v (.bool)]) := sealF (Gof D fd26 (tabH D h26))
noncomputable def E26 : En D := en_ fd26 G26
noncomputable def F26 (x0 : List S77) (x1 : List S81) : Option Bool := G26 (x0, x1)
noncomputable def L26 : LL D (YR D fd26.ts) := sealF (LiF D fd26 (tabH D h26))
noncomputable def L26_0 (v0 : List S77) (v1 : List S81) (v5 : Int) : Option Bool := L26 c26_0 (v0, v1, v5, ())
theorem E26_ok : FnOk D PP E26 := ok_ fd26 (l := h26) Tryz.func26 (.cons E48_ok (.cons E49_ok .nil))
/-- pochoirlaw20.QuadGaps -/
def c9_0 : Cut := ⟨31, [.box 3 3 (.st 0) 0 [], .box 4 4 (.st 1) 0 [], .box 5 5 (.st 6) 0 [], .v 7 (.sl (.st 7)), .v 8 (.int .i64)]⟩
def c9_1 : Cut := ⟨122, [.v 7 (.sl (.st 7)), .v 8 (.int .i64)]⟩
noncomputable def fd9 : FD := ⟨9, bodyF Tryz.f9, Tryz.f9.results.toList, Tryz.f9.ntmps, [.val, .val, .val], [.v (.st 0), .v (.st 1), .v (.st 6)], [.v (.bool)], 1, [c9_0, c9_1], 5000, none⟩
noncomputable def h9 : List (En D) := [E18, E24, E25, E26, E27]
noncomputable def G9 : YR D [.v (.st 0), .v (.st 1), .v (.st 6)] → Option (YR D [.v (.bool)]) := sealF (Gof D fd9 (tabH D h9))
noncomputable def E9 : En D := en_ fd9 G9
noncomputable def F9 (x0 : S24) (x1 : S34) (x2 : S51) : Option Bool := G9 (x0, x1, x2)
noncomputable def L9 : LL D (YR D fd9.ts) := sealF (LiF D fd9 (tabH D h9))
noncomputable def L9_0 (v3 : S24) (v4 : S34) (v5 : S51) (v7 : List S77) (v8 : Int) : Option Bool := L9 c9_0 (v3, v4, v5, v7, v8, ())
noncomputable def L9_1 (v7 : List S77) (v8 : Int) : Option Bool := L9 c9_1 (v7, v8, ())
theorem E9_ok : FnOk D PP E9 := ok_ fd9 (l := h9) Tryz.func9 (.cons E18_ok (.cons E24_ok (.cons E25_ok (.cons E26_ok (.cons E27_ok .nil)))))
end Go.Proofs.YtnikppnfkjogdaaGreatDoor.Ev
