/- Printed by a program of this claim: the seat's types, as they are told by value; that the table says what the program says. -/
import Derived.Test.YtalgppclaolonaaProg
import Derived.Test.YtalgppclaolonaaEv32
import Derived.KernelRfl
namespace Go.Proofs.Ytalgppclaolonaa.Ev
open Go
set_option linter.unusedVariables false
structure S36 where
  mk ::
  f0 : Int
  f1 : Int
structure S38 where
  mk ::
  f0 : Int
  f1 : Bool
  f2 : S36
  f3 : S36
  f4 : S36
structure S32 where
  mk ::
  f0 : Int
  f1 : Int
structure S33 where
  mk ::
  f0 : S32
  f1 : S32
  f2 : S32
structure S34 where
  mk ::
  f0 : Bool
  f1 : Bool
structure S57 where
  mk ::
  f0 : Bool
  f1 : List (Int)
structure S71 where
  mk ::
  f0 : Bool
  f1 : List (Int)
structure S82 where
  mk ::
  f0 : S36
  f1 : S36
  f2 : S36
structure S112 where
  mk ::
  f0 : Int
  f1 : Int
structure Ih where
  T : Type
  d : T
def tabT (n : Nat) : Ih := match n with
  | 0 => ⟨S36, ⟨0, 0⟩⟩
  | 1 => ⟨S38, ⟨0, false, ⟨0, 0⟩, ⟨0, 0⟩, ⟨0, 0⟩⟩⟩
  | 2 => ⟨S32, ⟨0, 0⟩⟩
  | 3 => ⟨S33, ⟨⟨0, 0⟩, ⟨0, 0⟩, ⟨0, 0⟩⟩⟩
  | 4 => ⟨S34, ⟨false, false⟩⟩
  | 5 => ⟨S57, ⟨false, []⟩⟩
  | 6 => ⟨S71, ⟨false, []⟩⟩
  | 7 => ⟨S82, ⟨⟨0, 0⟩, ⟨0, 0⟩, ⟨0, 0⟩⟩⟩
  | 8 => ⟨S112, ⟨0, 0⟩⟩
  | _ => ⟨Unit, ()⟩
def SS (n : Nat) : Type := (tabT n).T
def decS (t : Ty) (c : C SS) : Option (List (T SS t)) := match c with
  | .lst t' l => match Ty.eq? t' t with | some ⟨h⟩ => some (h ▸ l) | none => none
  | .nils => some []
  | .emp => some []
  | _ => none
def dec0 (l : List (C SS)) : Option S36 := match l with | [.int .i64 a0, .int .i64 a1] => some (⟨a0, a1⟩ : S36) | _ => none
def dec1 (l : List (C SS)) : Option S38 := match l with | [.int .i64 a0, .bool a1, .int .i64 a2, .int .i64 a3, .int .i64 a4, .int .i64 a5, .int .i64 a6, .int .i64 a7] => some (⟨a0, a1, ⟨a2, a3⟩, ⟨a4, a5⟩, ⟨a6, a7⟩⟩ : S38) | _ => none
def dec2 (l : List (C SS)) : Option S32 := match l with | [.int .i32 a0, .int .i32 a1] => some (⟨a0, a1⟩ : S32) | _ => none
def dec3 (l : List (C SS)) : Option S33 := match l with | [.int .i32 a0, .int .i32 a1, .int .i32 a2, .int .i32 a3, .int .i32 a4, .int .i32 a5] => some (⟨⟨a0, a1⟩, ⟨a2, a3⟩, ⟨a4, a5⟩⟩ : S33) | _ => none
def dec4 (l : List (C SS)) : Option S34 := match l with | [.bool a0, .bool a1] => some (⟨a0, a1⟩ : S34) | _ => none
def dec5 (l : List (C SS)) : Option S57 := match l with | [.bool a0, a1] => (match decS (.int .u32) a1 with | some ba1 => some (⟨a0, ba1⟩ : S57) | none => none) | _ => none
def dec6 (l : List (C SS)) : Option S71 := match l with | [.bool a0, a1] => (match decS (.int .u64) a1 with | some ba1 => some (⟨a0, ba1⟩ : S71) | none => none) | _ => none
def dec7 (l : List (C SS)) : Option S82 := match l with | [.int .i64 a0, .int .i64 a1, .int .i64 a2, .int .i64 a3, .int .i64 a4, .int .i64 a5] => some (⟨⟨a0, a1⟩, ⟨a2, a3⟩, ⟨a4, a5⟩⟩ : S82) | _ => none
def dec8 (l : List (C SS)) : Option S112 := match l with | [.int .u64 a0, .int .u64 a1] => some (⟨a0, a1⟩ : S112) | _ => none
def D : Tys where
  S := SS
  enc := fun n => match n with
    | 0 => fun (x : S36) => [.int .i64 x.f0, .int .i64 x.f1]
    | 1 => fun (x : S38) => [.int .i64 x.f0, .bool x.f1, .int .i64 x.f2.f0, .int .i64 x.f2.f1, .int .i64 x.f3.f0, .int .i64 x.f3.f1, .int .i64 x.f4.f0, .int .i64 x.f4.f1]
    | 2 => fun (x : S32) => [.int .i32 x.f0, .int .i32 x.f1]
    | 3 => fun (x : S33) => [.int .i32 x.f0.f0, .int .i32 x.f0.f1, .int .i32 x.f1.f0, .int .i32 x.f1.f1, .int .i32 x.f2.f0, .int .i32 x.f2.f1]
    | 4 => fun (x : S34) => [.bool x.f0, .bool x.f1]
    | 5 => fun (x : S57) => [.bool x.f0, .lst (.int .u32) x.f1]
    | 6 => fun (x : S71) => [.bool x.f0, .lst (.int .u64) x.f1]
    | 7 => fun (x : S82) => [.int .i64 x.f0.f0, .int .i64 x.f0.f1, .int .i64 x.f1.f0, .int .i64 x.f1.f1, .int .i64 x.f2.f0, .int .i64 x.f2.f1]
    | 8 => fun (x : S112) => [.int .u64 x.f0, .int .u64 x.f1]
    | _ => fun _ => []
  dec := fun n => match n with
    | 0 => dec0
    | 1 => dec1
    | 2 => dec2
    | 3 => dec3
    | 4 => dec4
    | 5 => dec5
    | 6 => dec6
    | 7 => dec7
    | 8 => dec8
    | _ => fun _ => none
  dfl := fun n => (tabT n).d
  siz := fun n => match n with | 0 => 2 | 1 => 8 | 2 => 2 | 3 => 6 | 4 => 2 | 5 => 2 | 6 => 2 | 7 => 6 | 8 => 2 | _ => 0
  ti := [(2, ⟨.int .i64, false, 1, 8, [.int .i64 0], some (.int .i64), []⟩),
    (3, ⟨.int .i64, false, 1, 8, [.int .i64 0], some (.int .i64), []⟩),
    (4, ⟨.bool, false, 1, 1, [.bool false], some (.bool), []⟩),
    (21, ⟨.int .i32, false, 1, 4, [.int .i32 0], some (.int .i32), []⟩),
    (22, ⟨.slice 38, false, 1, 24, [.nils], some (.sl (.st 1)), []⟩),
    (24, ⟨.slice 3, false, 1, 24, [.nils], some (.sl (.int .i64)), []⟩),
    (25, ⟨.int .i64, false, 1, 8, [.int .i64 0], some (.int .i64), []⟩),
    (32, ⟨.array 2 1 false, true, 2, 8, [.int .i32 0, .int .i32 0], some (.st 2), []⟩),
    (33, ⟨.array 3 2 true, true, 6, 24, [.int .i32 0, .int .i32 0, .int .i32 0, .int .i32 0, .int .i32 0, .int .i32 0], some (.st 3), []⟩),
    (34, ⟨.array 2 1 false, true, 2, 2, [.bool false, .bool false], some (.st 4), []⟩),
    (36, ⟨.struct [(0, 1, false), (1, 1, false)], true, 2, 16, [.int .i64 0, .int .i64 0], some (.st 0), [.int .i64, .int .i64]⟩),
    (38, ⟨.struct [(0, 1, false), (1, 1, false), (2, 2, true), (4, 2, true), (6, 2, true)], true, 8, 64, [.int .i64 0, .bool false, .int .i64 0, .int .i64 0, .int .i64 0, .int .i64 0, .int .i64 0, .int .i64 0], some (.st 1), [.int .i64, .bool, .int .i64, .int .i64, .int .i64, .int .i64, .int .i64, .int .i64]⟩),
    (55, ⟨.slice 97, false, 1, 24, [.nils], some (.sl (.int .u32)), []⟩),
    (57, ⟨.struct [(0, 1, false), (1, 1, false)], true, 2, 32, [.bool false, .nils], some (.st 5), []⟩),
    (60, ⟨.slice 57, false, 1, 24, [.nils], some (.sl (.st 5)), []⟩),
    (63, ⟨.slice 71, false, 1, 24, [.nils], some (.sl (.st 6)), []⟩),
    (69, ⟨.slice 104, false, 1, 24, [.nils], some (.sl (.int .u64)), []⟩),
    (71, ⟨.struct [(0, 1, false), (1, 1, false)], true, 2, 32, [.bool false, .nils], some (.st 6), []⟩),
    (73, ⟨.slice 36, false, 1, 24, [.nils], some (.sl (.st 0)), []⟩),
    (82, ⟨.array 3 2 true, true, 6, 48, [.int .i64 0, .int .i64 0, .int .i64 0, .int .i64 0, .int .i64 0, .int .i64 0], some (.st 7), []⟩),
    (84, ⟨.func, false, 1, 8, [.nilf], none, []⟩),
    (97, ⟨.int .u32, false, 1, 4, [.int .u32 0], some (.int .u32), []⟩),
    (104, ⟨.int .u64, false, 1, 8, [.int .u64 0], some (.int .u64), []⟩),
    (112, ⟨.struct [(0, 1, false), (1, 1, false)], true, 2, 16, [.int .u64 0, .int .u64 0], some (.st 8), [.int .u64, .int .u64]⟩),
    (133, ⟨.int .u64, false, 1, 8, [.int .u64 0], some (.int .u64), []⟩)]
  mode := [(86, ⟨[.val], false⟩), (87, ⟨[.val], false⟩), (88, ⟨[.val], false⟩), (52, ⟨[.val], false⟩), (102, ⟨[.val, .val], false⟩), (67, ⟨[.val], false⟩), (66, ⟨[.val], false⟩), (89, ⟨[.val, .val], false⟩), (121, ⟨[.val, .val], false⟩), (91, ⟨[.val, .val], false⟩), (142, ⟨[.val, .val, .val], false⟩), (120, ⟨[.val, .val], false⟩), (90, ⟨[.val, .val], false⟩), (143, ⟨[.val], false⟩), (123, ⟨[.val, .val], false⟩), (122, ⟨[.val], false⟩), (92, ⟨[.val, .val], false⟩), (53, ⟨[.val, .val], false⟩), (13, ⟨[.val], true⟩), (56, ⟨[.val], false⟩), (27, ⟨[.val], false⟩), (18, ⟨[.val, .val], false⟩), (12, ⟨[], false⟩), (16, ⟨[.val, .val], false⟩), (54, ⟨[.val], false⟩), (55, ⟨[.val], false⟩), (17, ⟨[.val], false⟩), (57, ⟨[.val, .ref], false⟩), (19, ⟨[.val, .val], false⟩), (4, ⟨[.val, .val, .val], false⟩), (110, ⟨[.val, .val], false⟩), (76, ⟨[.val], false⟩), (105, ⟨[.val], true⟩), (106, ⟨[.val, .val], true⟩), (75, ⟨[.val], true⟩), (137, ⟨[.val, .val], false⟩), (107, ⟨[.val, .val], true⟩), (155, ⟨[.val], false⟩), (138, ⟨[.val, .val], false⟩), (156, ⟨[.val], false⟩), (139, ⟨[.val, .val], false⟩), (108, ⟨[.val, .val], false⟩), (109, ⟨[.val, .val], true⟩), (74, ⟨[.val, .val], true⟩), (32, ⟨[.val], true⟩), (77, ⟨[.val], true⟩), (33, ⟨[.val], true⟩), (78, ⟨[.val], false⟩), (34, ⟨[.val], true⟩), (31, ⟨[], false⟩), (82, ⟨[.val], false⟩), (40, ⟨[.val], false⟩), (115, ⟨[.val], true⟩), (83, ⟨[.val, .val], true⟩), (44, ⟨[.val], true⟩), (79, ⟨[.val, .val], false⟩), (43, ⟨[.val, .val], true⟩), (42, ⟨[.val], true⟩), (111, ⟨[.val, .val], true⟩), (112, ⟨[.val, .val], false⟩), (113, ⟨[.val, .val], true⟩), (80, ⟨[.val, .val], true⟩), (140, ⟨[.val, .val], true⟩), (114, ⟨[.val, .val], true⟩), (81, ⟨[.val], true⟩), (39, ⟨[.val], true⟩), (35, ⟨[.val], true⟩), (36, ⟨[.val], true⟩), (38, ⟨[.val], true⟩), (37, ⟨[.val, .val], false⟩), (7, ⟨[.val], false⟩), (41, ⟨[.val], true⟩), (8, ⟨[.val, .val], false⟩)]
def grd {R : Type} (b : Bool) (k : Option R) : Option R := cond b k none
abbrev wr (k : IntKind) (n : Int) : Int := k.wrap n
def z0 : S36 := ⟨0, 0⟩
def z1 : S38 := ⟨0, false, ⟨0, 0⟩, ⟨0, 0⟩, ⟨0, 0⟩⟩
def z2 : S32 := ⟨0, 0⟩
def z3 : S33 := ⟨⟨0, 0⟩, ⟨0, 0⟩, ⟨0, 0⟩⟩
def z4 : S34 := ⟨false, false⟩
def z5 : S57 := ⟨false, []⟩
def z6 : S71 := ⟨false, []⟩
def z7 : S82 := ⟨⟨0, 0⟩, ⟨0, 0⟩, ⟨0, 0⟩⟩
def z8 : S112 := ⟨0, 0⟩
noncomputable abbrev PP : Program := Try.prog
theorem D_len : ∀ n x, (D.enc n x).length = D.siz n
  | 0, x => rfl
  | 1, x => rfl
  | 2, x => rfl
  | 3, x => rfl
  | 4, x => rfl
  | 5, x => rfl
  | 6, x => rfl
  | 7, x => rfl
  | 8, x => rfl
  | n + 9, x => rfl
def plainC : C SS → Bool | .int _ _ | .bool _ | .str _ | .lst _ _ => true | _ => false
theorem plain_ok {c : C SS} (h : plainC c = true) (w : World) (F : Nat → Prop) (hh : Hp D) (β : Nat → Option Loc) (v : Value) : RC D w F hh β c v ↔ RP D w F c v := by
  cases c <;> first | exact Iff.rfl | (simp [plainC] at h)
theorem D_plain : ∀ n x, (D.enc n x).all plainC = true
  | 0, x => rfl
  | 1, x => rfl
  | 2, x => rfl
  | 3, x => rfl
  | 4, x => rfl
  | 5, x => rfl
  | 6, x => rfl
  | 7, x => rfl
  | 8, x => rfl
  | n + 9, x => rfl
theorem D_pure : ∀ n x c, c ∈ D.enc n x → ∀ w F h β v, RC D w F h β c v ↔ RP D w F c v := fun n x c hc w F h β v => plain_ok (List.all_eq_true.mp (D_plain n x) c hc) w F h β v
theorem decS_eq (t : Ty) (c : C D.S) : decS t c = decC D (.sl t) c := by cases c <;> rfl
theorem decS_le {t : Ty} {c : C D.S} {l : List (T D.S t)} (h : decS t c = some l) : Cle c (.lst t l) := decC_le (D := D) (t := .sl t) (by rw [← decS_eq]; exact h) (fun n e => by cases e) _ rfl
theorem CL0 : CL (D := D) [] [] := CL.rfl' _
theorem CL1 {c c' : C D.S} {l l' : List (C D.S)} (h : Cle c c') (t : CL l l') : CL (c :: l) (c' :: l') := ⟨by simp [t.1], fun i x x' h1 h2 => by
  cases i with
  | zero => simp at h1 h2; subst h1; subst h2; exact h
  | succ i => simp at h1 h2; exact t.2 i x x' h1 h2⟩
theorem D_dec0 (cs : List (C SS)) (x : S36) (h : dec0 cs = some x) : CL (D := D) cs (D.enc 0 x) := by
  unfold dec0 at h
  split at h
  · obtain rfl := Option.some.inj h; exact CL.rfl' _
  · cases h
theorem D_dec1 (cs : List (C SS)) (x : S38) (h : dec1 cs = some x) : CL (D := D) cs (D.enc 1 x) := by
  unfold dec1 at h
  split at h
  · obtain rfl := Option.some.inj h; exact CL.rfl' _
  · cases h
theorem D_dec2 (cs : List (C SS)) (x : S32) (h : dec2 cs = some x) : CL (D := D) cs (D.enc 2 x) := by
  unfold dec2 at h
  split at h
  · obtain rfl := Option.some.inj h; exact CL.rfl' _
  · cases h
theorem D_dec3 (cs : List (C SS)) (x : S33) (h : dec3 cs = some x) : CL (D := D) cs (D.enc 3 x) := by
  unfold dec3 at h
  split at h
  · obtain rfl := Option.some.inj h; exact CL.rfl' _
  · cases h
theorem D_dec4 (cs : List (C SS)) (x : S34) (h : dec4 cs = some x) : CL (D := D) cs (D.enc 4 x) := by
  unfold dec4 at h
  split at h
  · obtain rfl := Option.some.inj h; exact CL.rfl' _
  · cases h
theorem D_dec5 (cs : List (C SS)) (x : S57) (h : dec5 cs = some x) : CL (D := D) cs (D.enc 5 x) := by
  unfold dec5 at h
  split at h
  · split at h
    · obtain rfl := Option.some.inj h; exact CL1 (Cle.rfl' _) (CL1 (decS_le (by assumption)) (CL0))
    · cases h
  · cases h
theorem D_dec6 (cs : List (C SS)) (x : S71) (h : dec6 cs = some x) : CL (D := D) cs (D.enc 6 x) := by
  unfold dec6 at h
  split at h
  · split at h
    · obtain rfl := Option.some.inj h; exact CL1 (Cle.rfl' _) (CL1 (decS_le (by assumption)) (CL0))
    · cases h
  · cases h
theorem D_dec7 (cs : List (C SS)) (x : S82) (h : dec7 cs = some x) : CL (D := D) cs (D.enc 7 x) := by
  unfold dec7 at h
  split at h
  · obtain rfl := Option.some.inj h; exact CL.rfl' _
  · cases h
theorem D_dec8 (cs : List (C SS)) (x : S112) (h : dec8 cs = some x) : CL (D := D) cs (D.enc 8 x) := by
  unfold dec8 at h
  split at h
  · obtain rfl := Option.some.inj h; exact CL.rfl' _
  · cases h
theorem D_dec : ∀ n cs x, D.dec n cs = some x → cs.length = D.siz n ∧ ∀ (j : Nat) c c', cs[j]? = some c → (D.enc n x)[j]? = some c' → Cle c c'
  | 0, cs, x, h => ⟨(D_dec0 cs x h).1.trans (D_len 0 x), (D_dec0 cs x h).2⟩
  | 1, cs, x, h => ⟨(D_dec1 cs x h).1.trans (D_len 1 x), (D_dec1 cs x h).2⟩
  | 2, cs, x, h => ⟨(D_dec2 cs x h).1.trans (D_len 2 x), (D_dec2 cs x h).2⟩
  | 3, cs, x, h => ⟨(D_dec3 cs x h).1.trans (D_len 3 x), (D_dec3 cs x h).2⟩
  | 4, cs, x, h => ⟨(D_dec4 cs x h).1.trans (D_len 4 x), (D_dec4 cs x h).2⟩
  | 5, cs, x, h => ⟨(D_dec5 cs x h).1.trans (D_len 5 x), (D_dec5 cs x h).2⟩
  | 6, cs, x, h => ⟨(D_dec6 cs x h).1.trans (D_len 6 x), (D_dec6 cs x h).2⟩
  | 7, cs, x, h => ⟨(D_dec7 cs x h).1.trans (D_len 7 x), (D_dec7 cs x h).2⟩
  | 8, cs, x, h => ⟨(D_dec8 cs x h).1.trans (D_len 8 x), (D_dec8 cs x h).2⟩
  | n + 9, cs, x, h => by cases h
theorem ti_of {t : TypeId} {i : TI D.S} (hs : (PP.info? t).isSome = true) (h1 : ((PP.info? t).get hs).size = i.size) (h2 : ((PP.info? t).get hs).bytes = i.bytes) (hz : ((PP.info? t).get hs).zero.isSome = true)
    (h3 : (((PP.info? t).get hs).zero.get hz).cells.toList.map some = i.zero.map valOf) (h4 : i.agg = true → ((PP.info? t).get hs).zero.get hz = .agg (((PP.info? t).get hs).zero.get hz).cells) :
    ∃ j, PP.info? t = some j ∧ j.size = i.size ∧ j.bytes = i.bytes ∧ ∃ z, j.zero = some z ∧ z.cells.toList.map some = i.zero.map valOf ∧ (i.agg = true → z = .agg z.cells) :=
  ⟨_, (Option.some_get hs).symm, h1, h2, _, (Option.some_get hz).symm, h3, h4⟩
theorem fund_of {u : Option TypeDesc} {fl0 : Array Field} (h0 : u = some (.struct fl0)) (ha : (fl0.toList.all fun fd => (PP.underlying fd.type).isSome) = true) :
    ∀ fl (fd : Field) (f : Nat), u = some (.struct fl) → fl[f]? = some fd → (PP.underlying fd.type).isSome := fun fl fd f h hf => by
  obtain rfl := TypeDesc.struct.inj (Option.some.inj (h0.symm.trans h))
  exact List.all_eq_true.mp ha fd (by rw [Array.mem_toList_iff]; exact Array.mem_of_getElem? hf)
theorem aund_of {u : Option TypeDesc} {n0 : Nat} {e0 : TypeId} (h0 : u = some (.array n0 e0)) (ha : (PP.underlying e0).isSome = true) :
    ∀ n e, u = some (.array n e) → (PP.underlying e).isSome := fun n e h => by
  obtain ⟨h1, rfl⟩ := TypeDesc.array.inj (Option.some.inj (h0.symm.trans h))
  exact ha
theorem fund_no {u : Option TypeDesc} {d : TypeDesc} (h0 : u = some d) (hd : ∀ fl, d ≠ .struct fl) :
    ∀ fl (fd : Field) (f : Nat), u = some (.struct fl) → fl[f]? = some fd → (PP.underlying fd.type).isSome := fun fl fd f h hf => by
  exact absurd (Option.some.inj (h0.symm.trans h)) (hd fl)
theorem aund_no {u : Option TypeDesc} {d : TypeDesc} (h0 : u = some d) (hd : ∀ n e, d ≠ .array n e) :
    ∀ n e, u = some (.array n e) → (PP.underlying e).isSome := fun n e h => by
  exact absurd (Option.some.inj (h0.symm.trans h)) (hd n e)
def i2 : TI D.S := ⟨.int .i64, false, 1, 8, [.int .i64 0], some (.int .i64), []⟩
theorem t2 : TiOk D PP 2 i2 where
  info := ti_of (by kernel_rfl) (by kernel_rfl) (by kernel_rfl) (by kernel_rfl) (by kernel_rfl) (fun h => by cases h)
  desc := Try.underlying2
  agg := by kernel_rfl
  pos := by decide
  und := by kernel_rfl
  byt := by decide
  zlen := rfl
  eqk := .inl rfl
  ty := fun τ h => by cases h; exact ⟨rfl, rfl⟩
  fld := fun fs h => by cases h
  fund := fund_no Try.underlying2 (fun _ h => by cases h)
  aund := aund_no Try.underlying2 (fun _ _ h => by cases h)
def i3 : TI D.S := ⟨.int .i64, false, 1, 8, [.int .i64 0], some (.int .i64), []⟩
theorem t3 : TiOk D PP 3 i3 where
  info := ti_of (by kernel_rfl) (by kernel_rfl) (by kernel_rfl) (by kernel_rfl) (by kernel_rfl) (fun h => by cases h)
  desc := Try.underlying3
  agg := by kernel_rfl
  pos := by decide
  und := by kernel_rfl
  byt := by decide
  zlen := rfl
  eqk := .inl rfl
  ty := fun τ h => by cases h; exact ⟨rfl, rfl⟩
  fld := fun fs h => by cases h
  fund := fund_no Try.underlying3 (fun _ h => by cases h)
  aund := aund_no Try.underlying3 (fun _ _ h => by cases h)
def i4 : TI D.S := ⟨.bool, false, 1, 1, [.bool false], some (.bool), []⟩
theorem t4 : TiOk D PP 4 i4 where
  info := ti_of (by kernel_rfl) (by kernel_rfl) (by kernel_rfl) (by kernel_rfl) (by kernel_rfl) (fun h => by cases h)
  desc := Try.underlying4
  agg := by kernel_rfl
  pos := by decide
  und := by kernel_rfl
  byt := by decide
  zlen := rfl
  eqk := .inl rfl
  ty := fun τ h => by cases h; exact ⟨rfl, rfl⟩
  fld := fun fs h => by cases h
  fund := fund_no Try.underlying4 (fun _ h => by cases h)
  aund := aund_no Try.underlying4 (fun _ _ h => by cases h)
def i21 : TI D.S := ⟨.int .i32, false, 1, 4, [.int .i32 0], some (.int .i32), []⟩
theorem t21 : TiOk D PP 21 i21 where
  info := ti_of (by kernel_rfl) (by kernel_rfl) (by kernel_rfl) (by kernel_rfl) (by kernel_rfl) (fun h => by cases h)
  desc := Try.underlying21
  agg := by kernel_rfl
  pos := by decide
  und := by kernel_rfl
  byt := by decide
  zlen := rfl
  eqk := .inl rfl
  ty := fun τ h => by cases h; exact ⟨rfl, rfl⟩
  fld := fun fs h => by cases h
  fund := fund_no Try.underlying21 (fun _ h => by cases h)
  aund := aund_no Try.underlying21 (fun _ _ h => by cases h)
def i22 : TI D.S := ⟨.slice 38, false, 1, 24, [.nils], some (.sl (.st 1)), []⟩
theorem t22 : TiOk D PP 22 i22 where
  info := ti_of (by kernel_rfl) (by kernel_rfl) (by kernel_rfl) (by kernel_rfl) (by kernel_rfl) (fun h => by cases h)
  desc := Try.underlying22
  agg := by kernel_rfl
  pos := by decide
  und := by kernel_rfl
  byt := by decide
  zlen := rfl
  eqk := .inl rfl
  ty := fun τ h => by cases h; exact ⟨rfl, rfl⟩
  fld := fun fs h => by cases h
  fund := fund_no Try.underlying22 (fun _ h => by cases h)
  aund := aund_no Try.underlying22 (fun _ _ h => by cases h)
def i24 : TI D.S := ⟨.slice 3, false, 1, 24, [.nils], some (.sl (.int .i64)), []⟩
theorem t24 : TiOk D PP 24 i24 where
  info := ti_of (by kernel_rfl) (by kernel_rfl) (by kernel_rfl) (by kernel_rfl) (by kernel_rfl) (fun h => by cases h)
  desc := Try.underlying24
  agg := by kernel_rfl
  pos := by decide
  und := by kernel_rfl
  byt := by decide
  zlen := rfl
  eqk := .inl rfl
  ty := fun τ h => by cases h; exact ⟨rfl, rfl⟩
  fld := fun fs h => by cases h
  fund := fund_no Try.underlying24 (fun _ h => by cases h)
  aund := aund_no Try.underlying24 (fun _ _ h => by cases h)
def i25 : TI D.S := ⟨.int .i64, false, 1, 8, [.int .i64 0], some (.int .i64), []⟩
theorem t25 : TiOk D PP 25 i25 where
  info := ti_of (by kernel_rfl) (by kernel_rfl) (by kernel_rfl) (by kernel_rfl) (by kernel_rfl) (fun h => by cases h)
  desc := Try.underlying25
  agg := by kernel_rfl
  pos := by decide
  und := by kernel_rfl
  byt := by decide
  zlen := rfl
  eqk := .inl rfl
  ty := fun τ h => by cases h; exact ⟨rfl, rfl⟩
  fld := fun fs h => by cases h
  fund := fund_no Try.underlying25 (fun _ h => by cases h)
  aund := aund_no Try.underlying25 (fun _ _ h => by cases h)
def i32 : TI D.S := ⟨.array 2 1 false, true, 2, 8, [.int .i32 0, .int .i32 0], some (.st 2), []⟩
theorem t32 : TiOk D PP 32 i32 where
  info := ti_of (by kernel_rfl) (by kernel_rfl) (by kernel_rfl) (by kernel_rfl) (by kernel_rfl) (fun _ => by kernel_rfl)
  desc := ⟨_, Try.underlying32, by kernel_rfl, by kernel_rfl, by kernel_rfl, by decide⟩
  agg := by kernel_rfl
  pos := by decide
  und := by kernel_rfl
  byt := by decide
  zlen := rfl
  eqk := .inl rfl
  ty := fun τ h => by cases h; exact ⟨rfl, rfl⟩
  fld := fun fs h => by cases h
  fund := fund_no Try.underlying32 (fun _ h => by cases h)
  aund := aund_of Try.underlying32 (by kernel_rfl)
def i33 : TI D.S := ⟨.array 3 2 true, true, 6, 24, [.int .i32 0, .int .i32 0, .int .i32 0, .int .i32 0, .int .i32 0, .int .i32 0], some (.st 3), []⟩
theorem t33 : TiOk D PP 33 i33 where
  info := ti_of (by kernel_rfl) (by kernel_rfl) (by kernel_rfl) (by kernel_rfl) (by kernel_rfl) (fun _ => by kernel_rfl)
  desc := ⟨_, Try.underlying33, by kernel_rfl, by kernel_rfl, by kernel_rfl, by decide⟩
  agg := by kernel_rfl
  pos := by decide
  und := by kernel_rfl
  byt := by decide
  zlen := rfl
  eqk := .inl rfl
  ty := fun τ h => by cases h; exact ⟨rfl, rfl⟩
  fld := fun fs h => by cases h
  fund := fund_no Try.underlying33 (fun _ h => by cases h)
  aund := aund_of Try.underlying33 (by kernel_rfl)
def i34 : TI D.S := ⟨.array 2 1 false, true, 2, 2, [.bool false, .bool false], some (.st 4), []⟩
theorem t34 : TiOk D PP 34 i34 where
  info := ti_of (by kernel_rfl) (by kernel_rfl) (by kernel_rfl) (by kernel_rfl) (by kernel_rfl) (fun _ => by kernel_rfl)
  desc := ⟨_, Try.underlying34, by kernel_rfl, by kernel_rfl, by kernel_rfl, by decide⟩
  agg := by kernel_rfl
  pos := by decide
  und := by kernel_rfl
  byt := by decide
  zlen := rfl
  eqk := .inl rfl
  ty := fun τ h => by cases h; exact ⟨rfl, rfl⟩
  fld := fun fs h => by cases h
  fund := fund_no Try.underlying34 (fun _ h => by cases h)
  aund := aund_of Try.underlying34 (by kernel_rfl)
def i36 : TI D.S := ⟨.struct [(0, 1, false), (1, 1, false)], true, 2, 16, [.int .i64 0, .int .i64 0], some (.st 0), [.int .i64, .int .i64]⟩
theorem t36 : TiOk D PP 36 i36 where
  info := ti_of (by kernel_rfl) (by kernel_rfl) (by kernel_rfl) (by kernel_rfl) (by kernel_rfl) (fun _ => by kernel_rfl)
  desc := ⟨_, Try.underlying36, by kernel_rfl⟩
  agg := by kernel_rfl
  pos := by decide
  und := by kernel_rfl
  byt := by decide
  zlen := rfl
  eqk := .inr ⟨20, by decide, by kernel_rfl, by kernel_rfl, by kernel_rfl⟩
  ty := fun τ h => by cases h; exact ⟨rfl, rfl⟩
  fld := fun fs h => by cases h; decide
  fund := fund_of Try.underlying36 (by kernel_rfl)
  aund := aund_no Try.underlying36 (fun _ _ h => by cases h)
def i38 : TI D.S := ⟨.struct [(0, 1, false), (1, 1, false), (2, 2, true), (4, 2, true), (6, 2, true)], true, 8, 64, [.int .i64 0, .bool false, .int .i64 0, .int .i64 0, .int .i64 0, .int .i64 0, .int .i64 0, .int .i64 0], some (.st 1), [.int .i64, .bool, .int .i64, .int .i64, .int .i64, .int .i64, .int .i64, .int .i64]⟩
theorem t38 : TiOk D PP 38 i38 where
  info := ti_of (by kernel_rfl) (by kernel_rfl) (by kernel_rfl) (by kernel_rfl) (by kernel_rfl) (fun _ => by kernel_rfl)
  desc := ⟨_, Try.underlying38, by kernel_rfl⟩
  agg := by kernel_rfl
  pos := by decide
  und := by kernel_rfl
  byt := by decide
  zlen := rfl
  eqk := .inr ⟨20, by decide, by kernel_rfl, by kernel_rfl, by kernel_rfl⟩
  ty := fun τ h => by cases h; exact ⟨rfl, rfl⟩
  fld := fun fs h => by cases h; decide
  fund := fund_of Try.underlying38 (by kernel_rfl)
  aund := aund_no Try.underlying38 (fun _ _ h => by cases h)
def i55 : TI D.S := ⟨.slice 97, false, 1, 24, [.nils], some (.sl (.int .u32)), []⟩
theorem t55 : TiOk D PP 55 i55 where
  info := ti_of (by kernel_rfl) (by kernel_rfl) (by kernel_rfl) (by kernel_rfl) (by kernel_rfl) (fun h => by cases h)
  desc := Try.underlying55
  agg := by kernel_rfl
  pos := by decide
  und := by kernel_rfl
  byt := by decide
  zlen := rfl
  eqk := .inl rfl
  ty := fun τ h => by cases h; exact ⟨rfl, rfl⟩
  fld := fun fs h => by cases h
  fund := fund_no Try.underlying55 (fun _ h => by cases h)
  aund := aund_no Try.underlying55 (fun _ _ h => by cases h)
def i57 : TI D.S := ⟨.struct [(0, 1, false), (1, 1, false)], true, 2, 32, [.bool false, .nils], some (.st 5), []⟩
theorem t57 : TiOk D PP 57 i57 where
  info := ti_of (by kernel_rfl) (by kernel_rfl) (by kernel_rfl) (by kernel_rfl) (by kernel_rfl) (fun _ => by kernel_rfl)
  desc := ⟨_, Try.underlying57, by kernel_rfl⟩
  agg := by kernel_rfl
  pos := by decide
  und := by kernel_rfl
  byt := by decide
  zlen := rfl
  eqk := .inl rfl
  ty := fun τ h => by cases h; exact ⟨rfl, rfl⟩
  fld := fun fs h => by cases h; decide
  fund := fund_of Try.underlying57 (by kernel_rfl)
  aund := aund_no Try.underlying57 (fun _ _ h => by cases h)
def i60 : TI D.S := ⟨.slice 57, false, 1, 24, [.nils], some (.sl (.st 5)), []⟩
theorem t60 : TiOk D PP 60 i60 where
  info := ti_of (by kernel_rfl) (by kernel_rfl) (by kernel_rfl) (by kernel_rfl) (by kernel_rfl) (fun h => by cases h)
  desc := Try.underlying60
  agg := by kernel_rfl
  pos := by decide
  und := by kernel_rfl
  byt := by decide
  zlen := rfl
  eqk := .inl rfl
  ty := fun τ h => by cases h; exact ⟨rfl, rfl⟩
  fld := fun fs h => by cases h
  fund := fund_no Try.underlying60 (fun _ h => by cases h)
  aund := aund_no Try.underlying60 (fun _ _ h => by cases h)
def i63 : TI D.S := ⟨.slice 71, false, 1, 24, [.nils], some (.sl (.st 6)), []⟩
theorem t63 : TiOk D PP 63 i63 where
  info := ti_of (by kernel_rfl) (by kernel_rfl) (by kernel_rfl) (by kernel_rfl) (by kernel_rfl) (fun h => by cases h)
  desc := Try.underlying63
  agg := by kernel_rfl
  pos := by decide
  und := by kernel_rfl
  byt := by decide
  zlen := rfl
  eqk := .inl rfl
  ty := fun τ h => by cases h; exact ⟨rfl, rfl⟩
  fld := fun fs h => by cases h
  fund := fund_no Try.underlying63 (fun _ h => by cases h)
  aund := aund_no Try.underlying63 (fun _ _ h => by cases h)
def i69 : TI D.S := ⟨.slice 104, false, 1, 24, [.nils], some (.sl (.int .u64)), []⟩
theorem t69 : TiOk D PP 69 i69 where
  info := ti_of (by kernel_rfl) (by kernel_rfl) (by kernel_rfl) (by kernel_rfl) (by kernel_rfl) (fun h => by cases h)
  desc := Try.underlying69
  agg := by kernel_rfl
  pos := by decide
  und := by kernel_rfl
  byt := by decide
  zlen := rfl
  eqk := .inl rfl
  ty := fun τ h => by cases h; exact ⟨rfl, rfl⟩
  fld := fun fs h => by cases h
  fund := fund_no Try.underlying69 (fun _ h => by cases h)
  aund := aund_no Try.underlying69 (fun _ _ h => by cases h)
def i71 : TI D.S := ⟨.struct [(0, 1, false), (1, 1, false)], true, 2, 32, [.bool false, .nils], some (.st 6), []⟩
theorem t71 : TiOk D PP 71 i71 where
  info := ti_of (by kernel_rfl) (by kernel_rfl) (by kernel_rfl) (by kernel_rfl) (by kernel_rfl) (fun _ => by kernel_rfl)
  desc := ⟨_, Try.underlying71, by kernel_rfl⟩
  agg := by kernel_rfl
  pos := by decide
  und := by kernel_rfl
  byt := by decide
  zlen := rfl
  eqk := .inl rfl
  ty := fun τ h => by cases h; exact ⟨rfl, rfl⟩
  fld := fun fs h => by cases h; decide
  fund := fund_of Try.underlying71 (by kernel_rfl)
  aund := aund_no Try.underlying71 (fun _ _ h => by cases h)
def i73 : TI D.S := ⟨.slice 36, false, 1, 24, [.nils], some (.sl (.st 0)), []⟩
theorem t73 : TiOk D PP 73 i73 where
  info := ti_of (by kernel_rfl) (by kernel_rfl) (by kernel_rfl) (by kernel_rfl) (by kernel_rfl) (fun h => by cases h)
  desc := Try.underlying73
  agg := by kernel_rfl
  pos := by decide
  und := by kernel_rfl
  byt := by decide
  zlen := rfl
  eqk := .inl rfl
  ty := fun τ h => by cases h; exact ⟨rfl, rfl⟩
  fld := fun fs h => by cases h
  fund := fund_no Try.underlying73 (fun _ h => by cases h)
  aund := aund_no Try.underlying73 (fun _ _ h => by cases h)
def i82 : TI D.S := ⟨.array 3 2 true, true, 6, 48, [.int .i64 0, .int .i64 0, .int .i64 0, .int .i64 0, .int .i64 0, .int .i64 0], some (.st 7), []⟩
theorem t82 : TiOk D PP 82 i82 where
  info := ti_of (by kernel_rfl) (by kernel_rfl) (by kernel_rfl) (by kernel_rfl) (by kernel_rfl) (fun _ => by kernel_rfl)
  desc := ⟨_, Try.underlying82, by kernel_rfl, by kernel_rfl, by kernel_rfl, by decide⟩
  agg := by kernel_rfl
  pos := by decide
  und := by kernel_rfl
  byt := by decide
  zlen := rfl
  eqk := .inl rfl
  ty := fun τ h => by cases h; exact ⟨rfl, rfl⟩
  fld := fun fs h => by cases h
  fund := fund_no Try.underlying82 (fun _ h => by cases h)
  aund := aund_of Try.underlying82 (by kernel_rfl)
def i84 : TI D.S := ⟨.func, false, 1, 8, [.nilf], none, []⟩
theorem t84 : TiOk D PP 84 i84 where
  info := ti_of (by kernel_rfl) (by kernel_rfl) (by kernel_rfl) (by kernel_rfl) (by kernel_rfl) (fun h => by cases h)
  desc := ⟨_, _, _, Try.underlying84⟩
  agg := by kernel_rfl
  pos := by decide
  und := by kernel_rfl
  byt := by decide
  zlen := rfl
  eqk := .inl rfl
  ty := fun τ h => by cases h
  fld := fun fs h => by cases h
  fund := fund_no Try.underlying84 (fun _ h => by cases h)
  aund := aund_no Try.underlying84 (fun _ _ h => by cases h)
def i97 : TI D.S := ⟨.int .u32, false, 1, 4, [.int .u32 0], some (.int .u32), []⟩
theorem t97 : TiOk D PP 97 i97 where
  info := ti_of (by kernel_rfl) (by kernel_rfl) (by kernel_rfl) (by kernel_rfl) (by kernel_rfl) (fun h => by cases h)
  desc := Try.underlying97
  agg := by kernel_rfl
  pos := by decide
  und := by kernel_rfl
  byt := by decide
  zlen := rfl
  eqk := .inl rfl
  ty := fun τ h => by cases h; exact ⟨rfl, rfl⟩
  fld := fun fs h => by cases h
  fund := fund_no Try.underlying97 (fun _ h => by cases h)
  aund := aund_no Try.underlying97 (fun _ _ h => by cases h)
def i104 : TI D.S := ⟨.int .u64, false, 1, 8, [.int .u64 0], some (.int .u64), []⟩
theorem t104 : TiOk D PP 104 i104 where
  info := ti_of (by kernel_rfl) (by kernel_rfl) (by kernel_rfl) (by kernel_rfl) (by kernel_rfl) (fun h => by cases h)
  desc := Try.underlying104
  agg := by kernel_rfl
  pos := by decide
  und := by kernel_rfl
  byt := by decide
  zlen := rfl
  eqk := .inl rfl
  ty := fun τ h => by cases h; exact ⟨rfl, rfl⟩
  fld := fun fs h => by cases h
  fund := fund_no Try.underlying104 (fun _ h => by cases h)
  aund := aund_no Try.underlying104 (fun _ _ h => by cases h)
def i112 : TI D.S := ⟨.struct [(0, 1, false), (1, 1, false)], true, 2, 16, [.int .u64 0, .int .u64 0], some (.st 8), [.int .u64, .int .u64]⟩
theorem t112 : TiOk D PP 112 i112 where
  info := ti_of (by kernel_rfl) (by kernel_rfl) (by kernel_rfl) (by kernel_rfl) (by kernel_rfl) (fun _ => by kernel_rfl)
  desc := ⟨_, Try.underlying112, by kernel_rfl⟩
  agg := by kernel_rfl
  pos := by decide
  und := by kernel_rfl
  byt := by decide
  zlen := rfl
  eqk := .inr ⟨20, by decide, by kernel_rfl, by kernel_rfl, by kernel_rfl⟩
  ty := fun τ h => by cases h; exact ⟨rfl, rfl⟩
  fld := fun fs h => by cases h; decide
  fund := fund_of Try.underlying112 (by kernel_rfl)
  aund := aund_no Try.underlying112 (fun _ _ h => by cases h)
def i133 : TI D.S := ⟨.int .u64, false, 1, 8, [.int .u64 0], some (.int .u64), []⟩
theorem t133 : TiOk D PP 133 i133 where
  info := ti_of (by kernel_rfl) (by kernel_rfl) (by kernel_rfl) (by kernel_rfl) (by kernel_rfl) (fun h => by cases h)
  desc := Try.underlying133
  agg := by kernel_rfl
  pos := by decide
  und := by kernel_rfl
  byt := by decide
  zlen := rfl
  eqk := .inl rfl
  ty := fun τ h => by cases h; exact ⟨rfl, rfl⟩
  fld := fun fs h => by cases h
  fund := fund_no Try.underlying133 (fun _ h => by cases h)
  aund := aund_no Try.underlying133 (fun _ _ h => by cases h)
theorem D_ti : ∀ t i, (t, i) ∈ D.ti → TiOk D PP t i := fun t i h => by
  have h : (t, i) ∈ [(2, i2), (3, i3), (4, i4), (21, i21), (22, i22), (24, i24), (25, i25), (32, i32), (33, i33), (34, i34), (36, i36), (38, i38), (55, i55), (57, i57), (60, i60), (63, i63), (69, i69), (71, i71), (73, i73), (82, i82), (84, i84), (97, i97), (104, i104), (112, i112), (133, i133)] := h
  simp only [List.mem_cons, List.not_mem_nil, or_false, Prod.mk.injEq] at h
  rcases h with ⟨rfl, rfl⟩ | ⟨rfl, rfl⟩ | ⟨rfl, rfl⟩ | ⟨rfl, rfl⟩ | ⟨rfl, rfl⟩ | ⟨rfl, rfl⟩ | ⟨rfl, rfl⟩ | ⟨rfl, rfl⟩ | ⟨rfl, rfl⟩ | ⟨rfl, rfl⟩ | ⟨rfl, rfl⟩ | ⟨rfl, rfl⟩ | ⟨rfl, rfl⟩ | ⟨rfl, rfl⟩ | ⟨rfl, rfl⟩ | ⟨rfl, rfl⟩ | ⟨rfl, rfl⟩ | ⟨rfl, rfl⟩ | ⟨rfl, rfl⟩ | ⟨rfl, rfl⟩ | ⟨rfl, rfl⟩ | ⟨rfl, rfl⟩ | ⟨rfl, rfl⟩ | ⟨rfl, rfl⟩ | ⟨rfl, rfl⟩
  · exact t2
  · exact t3
  · exact t4
  · exact t21
  · exact t22
  · exact t24
  · exact t25
  · exact t32
  · exact t33
  · exact t34
  · exact t36
  · exact t38
  · exact t55
  · exact t57
  · exact t60
  · exact t63
  · exact t69
  · exact t71
  · exact t73
  · exact t82
  · exact t84
  · exact t97
  · exact t104
  · exact t112
  · exact t133
theorem lw : Lawful D PP where
  len := D_len
  dec := D_dec
  pure := D_pure
  ti := D_ti
  mixed := by kernel_rfl
end Go.Proofs.Ytalgppclaolonaa.Ev
