/- Printed by a program of this claim: the seat's types, as they are told by value; that the table says what the program says. -/
import Derived.Test.YtalghbndblgndaaProg
import Derived.Test.YtalghbndblgndaaEvAd
import Derived.KernelRfl
import Derived.Lib.TrailingZeros
namespace Go.Proofs.Ytalghbndblgndaa.Ev
open Go
set_option linter.unusedVariables false
structure S39 where
  mk ::
  f0 : Int
  f1 : Int
  f2 : Bool
structure S47 where
  mk ::
  f0 : Int
  f1 : Int
  f2 : Int
  f3 : Int
  f4 : Int
  f5 : Int
  f6 : Int
structure S43 where
  mk ::
  f0 : List (List (S39))
  f1 : List (S47)
structure S99 where
  mk ::
  f0 : List (S43)
  f1 : List (Int)
  f2 : Int
  f3 : Int
  f4 : Bool
structure S192 where
  mk ::
  f0 : ByteArray
  f1 : Int
  f2 : Bool
structure S132 where
  mk ::
  f0 : Option (S192)
  f1 : List (Int)
  f2 : List (Int)
structure S139 where
  mk ::
  f0 : ByteArray
  f1 : Int
  f2 : Bool
structure S180 where
  mk ::
  f0 : List (List (S39))
  f1 : Int
structure Ih where
  T : Type
  d : T
def tabT (n : Nat) : Ih := match n with
  | 0 => ⟨S39, ⟨0, 0, false⟩⟩
  | 1 => ⟨S47, ⟨0, 0, 0, 0, 0, 0, 0⟩⟩
  | 2 => ⟨S43, ⟨[], []⟩⟩
  | 3 => ⟨S99, ⟨[], [], 0, 0, false⟩⟩
  | 4 => ⟨S192, ⟨ByteArray.empty, 0, false⟩⟩
  | 5 => ⟨S132, ⟨none, [], []⟩⟩
  | 6 => ⟨S139, ⟨ByteArray.empty, 0, false⟩⟩
  | 7 => ⟨S180, ⟨[], 0⟩⟩
  | _ => ⟨Unit, ()⟩
def SS (n : Nat) : Type := (tabT n).T
def decS (t : Ty) (c : C SS) : Option (List (T SS t)) := match c with
  | .lst t' l => match Ty.eq? t' t with | some ⟨h⟩ => some (h ▸ l) | none => none
  | .nils => some []
  | .emp => some []
  | _ => none
def ptrC (t : Ty) (x : Option (T SS t)) : C SS := match x with | none => .nilp | some y => .fptr t [y] 0 0
def decP (t : Ty) (c : C SS) : Option (Option (T SS t)) := match c with
  | .nilp => some none
  | .fptr t' l i off => match l, i, off with
    | [x], 0, 0 => match Ty.eq? t' t with | some ⟨h⟩ => some (some (h ▸ x)) | none => none
    | _, _, _ => none
  | _ => none
def dec0 (l : List (C SS)) : Option S39 := match l with | [.int .i64 a0, .int .i64 a1, .bool a2] => some (⟨a0, a1, a2⟩ : S39) | _ => none
def dec1 (l : List (C SS)) : Option S47 := match l with | [.int .i64 a0, .int .i64 a1, .int .i64 a2, .int .i64 a3, .int .i64 a4, .int .i64 a5, .int .i64 a6] => some (⟨a0, a1, a2, a3, a4, a5, a6⟩ : S47) | _ => none
def dec2 (l : List (C SS)) : Option S43 := match l with | [a0, a1] => ((match decS (.sl (.st 0)) a0 with | some ba0 => (match decS (.st 1) a1 with | some ba1 => some (⟨ba0, ba1⟩ : S43) | none => none) | none => none)) | _ => none
def dec3 (l : List (C SS)) : Option S99 := match l with | [a0, a1, .int .i64 a2, .int .i64 a3, .bool a4] => ((match decS (.st 2) a0 with | some ba0 => (match decS (.int .i64) a1 with | some ba1 => some (⟨ba0, ba1, a2, a3, a4⟩ : S99) | none => none) | none => none)) | _ => none
def dec4 (l : List (C SS)) : Option S192 := match l with | [.str a0, .int .i64 a1, .bool a2] => some (⟨a0, a1, a2⟩ : S192) | _ => none
def dec5 (l : List (C SS)) : Option S132 := match l with | [a0, a1, a2] => ((match decP (.st 4) a0 with | some ba0 => (match decS (.int .i64) a1 with | some ba1 => (match decS (.int .u8) a2 with | some ba2 => some (⟨ba0, ba1, ba2⟩ : S132) | none => none) | none => none) | none => none)) | _ => none
def dec6 (l : List (C SS)) : Option S139 := match l with | [.str a0, .int .i64 a1, .bool a2] => some (⟨a0, a1, a2⟩ : S139) | _ => none
def dec7 (l : List (C SS)) : Option S180 := match l with | [a0, .int .i64 a1] => ((match decS (.sl (.st 0)) a0 with | some ba0 => some (⟨ba0, a1⟩ : S180) | none => none)) | _ => none
def sp5 : Spl S132 := ⟨fun x k => (match x.f0 with | none => k ⟨none, x.f1, x.f2⟩ | some y0 => k ⟨(some y0), x.f1, x.f2⟩), fun x k => by obtain ⟨g0, g1, g2⟩ := x; cases g0 <;> rfl⟩
def D : Tys where
  S := SS
  enc := fun n => match n with
    | 0 => fun (x : S39) => [.int .i64 x.f0, .int .i64 x.f1, .bool x.f2]
    | 1 => fun (x : S47) => [.int .i64 x.f0, .int .i64 x.f1, .int .i64 x.f2, .int .i64 x.f3, .int .i64 x.f4, .int .i64 x.f5, .int .i64 x.f6]
    | 2 => fun (x : S43) => [.lst (.sl (.st 0)) x.f0, .lst (.st 1) x.f1]
    | 3 => fun (x : S99) => [.lst (.st 2) x.f0, .lst (.int .i64) x.f1, .int .i64 x.f2, .int .i64 x.f3, .bool x.f4]
    | 4 => fun (x : S192) => [.str x.f0, .int .i64 x.f1, .bool x.f2]
    | 5 => fun (x : S132) => [ptrC (.st 4) x.f0, .lst (.int .i64) x.f1, .lst (.int .u8) x.f2]
    | 6 => fun (x : S139) => [.str x.f0, .int .i64 x.f1, .bool x.f2]
    | 7 => fun (x : S180) => [.lst (.sl (.st 0)) x.f0, .int .i64 x.f1]
    | _ => fun _ => []
  dec := fun n => match n with
    | 0 => dec0
    | 1 => dec1
    | 2 => dec2
    | 3 => dec3
    | 4 => dec4
    | 5 => dec5
    | 6 => dec6
    | 7 => dec7
    | _ => fun _ => none
  dfl := fun n => (tabT n).d
  siz := fun n => match n with | 0 => 3 | 1 => 7 | 2 => 2 | 3 => 5 | 4 => 3 | 5 => 3 | 6 => 3 | 7 => 2 | _ => 0
  ti := [(3, ⟨.int .i64, false, 1, 8, [.int .i64 0], some (.int .i64), []⟩),
    (4, ⟨.bool, false, 1, 1, [.bool false], some (.bool), []⟩),
    (5, ⟨.int .u8, false, 1, 1, [.int .u8 0], some (.int .u8), []⟩),
    (9, ⟨.str, false, 1, 16, [.str ByteArray.empty], some (.str), []⟩),
    (22, ⟨.slice 43, false, 1, 24, [.nils], some (.sl (.st 2)), []⟩),
    (25, ⟨.slice 40, false, 1, 24, [.nils], some (.sl (.sl (.st 0))), []⟩),
    (26, ⟨.int .i64, false, 1, 8, [.int .i64 0], some (.int .i64), []⟩),
    (39, ⟨.struct [(0, 1, false), (1, 1, false), (2, 1, false)], true, 3, 24, [.int .i64 0, .int .i64 0, .bool false], some (.st 0), [.int .i64, .int .i64, .bool]⟩),
    (40, ⟨.slice 39, false, 1, 24, [.nils], some (.sl (.st 0)), []⟩),
    (41, ⟨.slice 47, false, 1, 24, [.nils], some (.sl (.st 1)), []⟩),
    (43, ⟨.struct [(0, 1, false), (1, 1, false)], true, 2, 48, [.nils, .nils], some (.st 2), []⟩),
    (44, ⟨.int .i8, false, 1, 1, [.int .i8 0], some (.int .i8), []⟩),
    (47, ⟨.struct [(0, 1, false), (1, 1, false), (2, 1, false), (3, 1, false), (4, 1, false), (5, 1, false), (6, 1, false)], true, 7, 56, [.int .i64 0, .int .i64 0, .int .i64 0, .int .i64 0, .int .i64 0, .int .i64 0, .int .i64 0], some (.st 1), [.int .i64, .int .i64, .int .i64, .int .i64, .int .i64, .int .i64, .int .i64]⟩),
    (57, ⟨.int .u16, false, 1, 2, [.int .u16 0], some (.int .u16), []⟩),
    (86, ⟨.slice 5, false, 1, 24, [.nils], some (.sl (.int .u8)), []⟩),
    (90, ⟨.slice 3, false, 1, 24, [.nils], some (.sl (.int .i64)), []⟩),
    (97, ⟨.ptr 99, false, 1, 8, [.nilp], none, []⟩),
    (99, ⟨.struct [(0, 1, false), (1, 1, false), (2, 1, false), (3, 1, false), (4, 1, false)], true, 5, 72, [.nils, .nils, .int .i64 0, .int .i64 0, .bool false], some (.st 3), []⟩),
    (109, ⟨.func, false, 1, 8, [.nilf], none, []⟩),
    (126, ⟨.int .u32, false, 1, 4, [.int .u32 0], some (.int .u32), []⟩),
    (128, ⟨.ptr 132, false, 1, 8, [.nilp], none, []⟩),
    (129, ⟨.ptr 192, false, 1, 8, [.nilp], none, []⟩),
    (132, ⟨.struct [(0, 1, false), (1, 1, false), (2, 1, false)], true, 3, 56, [.nilp, .nils, .nils], some (.st 5), []⟩),
    (133, ⟨.int .i16, false, 1, 2, [.int .i16 0], some (.int .i16), []⟩),
    (137, ⟨.ptr 139, false, 1, 8, [.nilp], none, []⟩),
    (139, ⟨.struct [(0, 1, false), (1, 1, false), (2, 1, false)], true, 3, 32, [.str ByteArray.empty, .int .i64 0, .bool false], some (.st 6), [.str, .int .i64, .bool]⟩),
    (142, ⟨.slice 126, false, 1, 24, [.nils], some (.sl (.int .u32)), []⟩),
    (180, ⟨.struct [(0, 1, false), (1, 1, false)], true, 2, 32, [.nils, .int .i64 0], some (.st 7), []⟩),
    (192, ⟨.struct [(0, 1, false), (1, 1, false), (2, 1, false)], true, 3, 32, [.str ByteArray.empty, .int .i64 0, .bool false], some (.st 4), [.str, .int .i64, .bool]⟩),
    (199, ⟨.int .u64, false, 1, 8, [.int .u64 0], some (.int .u64), []⟩),
    (209, ⟨.ptr 47, false, 1, 8, [.nilp], none, []⟩),
    (222, ⟨.ptr 180, false, 1, 8, [.nilp], none, []⟩)]
  mode := [(133, ⟨[.val], false, none⟩), (85, ⟨[.val, .val], false, none⟩), (35, ⟨[.val, .val], false, none⟩), (69, ⟨[.val], false, none⟩), (28, ⟨[.val], false, none⟩), (61, ⟨[.val, .val], false, none⟩), (60, ⟨[.val, .ref], true, none⟩), (115, ⟨[.val, .clo [1]], true, some ⟨[.val, .clo [(1, [])]], []⟩⟩), (59, ⟨[.val, .clo [1]], true, some ⟨[.val, .clo [(1, [])]], []⟩⟩), (22, ⟨[.val], false, none⟩), (55, ⟨[.val, .val], false, none⟩), (162, ⟨[.val, .val], false, none⟩), (149, ⟨[.val, .val], false, none⟩), (110, ⟨[.ref, .val], true, some ⟨[.ref 0 [(1, none)] [(1, none)], .val], []⟩⟩), (90, ⟨[.val], false, none⟩), (91, ⟨[.val], false, none⟩), (92, ⟨[.val], false, none⟩), (42, ⟨[.val, .val, .val], false, none⟩), (111, ⟨[.ref, .val, .val], true, some ⟨[.ref 0 [(0, none)] [(0, none)], .val, .val], []⟩⟩), (56, ⟨[.ref, .val], true, some ⟨[.ref 0 [(1, none)] [(1, none)], .val], []⟩⟩), (112, ⟨[.val], true, some ⟨[.val], [(0, none)]⟩⟩), (57, ⟨[.val], true, none⟩), (17, ⟨[.val, .val], true, none⟩), (19, ⟨[.val, .val], false, none⟩), (15, ⟨[], false, none⟩), (161, ⟨[.val], false, none⟩), (148, ⟨[.val, .val], false, none⟩), (108, ⟨[.val], false, none⟩), (138, ⟨[.val, .val, .val], false, none⟩), (139, ⟨[.val], false, none⟩), (88, ⟨[.val, .val], false, none⟩), (39, ⟨[.val], false, none⟩), (70, ⟨[.val], true, some ⟨[.val], [(0, some (.st 4))]⟩⟩), (120, ⟨[.ref, .val], false, none⟩), (119, ⟨[.ref], false, none⟩), (73, ⟨[.ref], false, none⟩), (135, ⟨[.val], false, none⟩), (71, ⟨[.ref], false, none⟩), (158, ⟨[.ref], false, none⟩), (136, ⟨[.ref, .val], false, none⟩), (137, ⟨[.ref, .val, .ref], false, none⟩), (87, ⟨[.ref, .val], false, none⟩), (37, ⟨[.val, .val], true, none⟩), (72, ⟨[.ref, .val], false, none⟩), (151, ⟨[.ref], false, none⟩), (121, ⟨[.ref, .val], true, some ⟨[.ref 0 [(0, some (.st 4)), (1, none), (2, none)] [(0, some (.st 4)), (1, none), (2, none)], .val], []⟩⟩), (163, ⟨[.val], false, none⟩), (152, ⟨[.ref, .val], true, some ⟨[.ref 0 [(0, some (.st 4)), (1, none), (2, none)] [(0, some (.st 4)), (1, none), (2, none)], .val], []⟩⟩), (122, ⟨[.ref, .val], true, some ⟨[.ref 0 [(0, some (.st 4)), (1, none), (2, none)] [(0, some (.st 4)), (1, none), (2, none)], .val], []⟩⟩), (153, ⟨[.ref, .val, .val], true, some ⟨[.ref 0 [(0, some (.st 4))] [(0, some (.st 4))], .val, .val], []⟩⟩), (123, ⟨[.ref, .val, .val], true, some ⟨[.ref 0 [(0, some (.st 4))] [(0, some (.st 4))], .val, .val], []⟩⟩), (124, ⟨[.ref, .val, .val], true, some ⟨[.ref 0 [(0, some (.st 4))] [(0, some (.st 4))], .val, .val], []⟩⟩), (74, ⟨[.ref, .val], true, some ⟨[.ref 0 [(0, some (.st 4)), (1, none), (2, none)] [(0, some (.st 4))], .val], []⟩⟩), (30, ⟨[.val], true, none⟩), (109, ⟨[.val, .val], true, none⟩), (52, ⟨[.val, .val], true, none⟩), (41, ⟨[.val], false, none⟩), (125, ⟨[.val, .val, .val], false, none⟩), (76, ⟨[.ref, .val], false, none⟩), (126, ⟨[.val], false, none⟩), (77, ⟨[.ref, .val], false, none⟩), (75, ⟨[.ref], false, none⟩), (140, ⟨[.ref], false, none⟩), (89, ⟨[.ref, .val], false, none⟩), (40, ⟨[.val, .val], true, none⟩), (78, ⟨[.ref, .val], true, none⟩), (79, ⟨[.ref, .val, .val, .val], true, none⟩), (31, ⟨[.val], true, none⟩), (53, ⟨[.val, .val], true, none⟩), (21, ⟨[.val, .val], false, none⟩), (38, ⟨[.val, .val], false, none⟩), (54, ⟨[.val, .val], false, none⟩), (14, ⟨[.val, .val], false, none⟩)]
  spl := fun n => match n with
    | 5 => sp5
    | n => ⟨fun x k => k x, fun _ _ => rfl⟩
def grd {R : Type} (b : Bool) (k : Option R) : Option R := cond b k none
abbrev wr (k : IntKind) (n : Int) : Int := k.wrap n
def z0 : S39 := ⟨0, 0, false⟩
def z1 : S47 := ⟨0, 0, 0, 0, 0, 0, 0⟩
def z2 : S43 := ⟨[], []⟩
def z3 : S99 := ⟨[], [], 0, 0, false⟩
def z4 : S192 := ⟨ByteArray.empty, 0, false⟩
def z5 : S132 := ⟨none, [], []⟩
def z6 : S139 := ⟨ByteArray.empty, 0, false⟩
def z7 : S180 := ⟨[], 0⟩
noncomputable abbrev PP : Program := Try.prog
theorem D_len : ∀ n x, (D.enc n x).length = D.siz n
  | 0, x => rfl
  | 1, x => rfl
  | 2, x => rfl
  | 3, x => rfl
  | 4, x => rfl
  | 5, x => rfl
  | 6, x => rfl
  | 7, x => rfl
  | n + 8, x => rfl
def plainC : C SS → Bool | .int _ _ | .bool _ | .str _ | .lst _ _ | .nilp | .fptr _ _ _ _ => true | _ => false
theorem plain_ok {c : C SS} (h : plainC c = true) (w : World) (F : Nat → Prop) (hh : Hp D) (β : Nat → Option Loc) (v : Value) : RC D w F hh β c v ↔ RP D w F c v := by
  cases c <;> first | exact Iff.rfl | (simp [plainC] at h)
theorem plain_ptr (t : Ty) (x : Option (T SS t)) : plainC (ptrC t x) = true := by cases x <;> rfl
theorem D_plain : ∀ n x, (D.enc n x).all plainC = true
  | 0, x => rfl
  | 1, x => rfl
  | 2, x => rfl
  | 3, x => rfl
  | 4, x => rfl
  | 5, x => (by have h : ∀ (x : S132), ([ptrC (.st 4) x.f0, .lst (.int .i64) x.f1, .lst (.int .u8) x.f2] : List (C SS)).all plainC = true := fun x => (by obtain ⟨g0, g1, g2⟩ := x; cases g0 <;> rfl); exact h x)
  | 6, x => rfl
  | 7, x => rfl
  | n + 8, x => rfl
theorem D_pure : ∀ n x c, c ∈ D.enc n x → ∀ w F h β v, RC D w F h β c v ↔ RP D w F c v := fun n x c hc w F h β v => plain_ok (List.all_eq_true.mp (D_plain n x) c hc) w F h β v
theorem decS_eq (t : Ty) (c : C D.S) : decS t c = decC D (.sl t) c := by cases c <;> rfl
theorem decS_le {t : Ty} {c : C D.S} {l : List (T D.S t)} (h : decS t c = some l) : Ceq c (.lst t l) := decC_eq (D := D) (t := .sl t) (by rw [← decS_eq]; exact h) (fun n e => by cases e) _ rfl
theorem decP_eq (t : Ty) (c : C D.S) : decP t c = decC D (.ptr t) c := by
  cases c with
  | fptr t' l i off => match l, i, off with
    | [], _, _ => rfl
    | [x], 0, 0 => rfl
    | [x], 0, _ + 1 => rfl
    | [x], _ + 1, _ => rfl
    | _ :: _ :: _, _, _ => rfl
  | _ => rfl
theorem decP_le {t : Ty} {c : C D.S} {x : Option (T D.S t)} (h : decP t c = some x) : Ceq c (ptrC t x) := decC_eq (D := D) (t := .ptr t) (by rw [← decP_eq]; exact h) (fun n e => by cases e) _ (by cases x <;> rfl)
theorem CL0 : CQ (D := D) [] [] := CQ.rfl' _
theorem CL1 {c c' : C D.S} {l l' : List (C D.S)} (h : Ceq c c') (t : CQ l l') : CQ (c :: l) (c' :: l') := ⟨by simp [t.1], fun i x x' h1 h2 => by
  cases i with
  | zero => simp at h1 h2; subst h1; subst h2; exact h
  | succ i => simp at h1 h2; exact t.2 i x x' h1 h2⟩
theorem D_dec0 (cs : List (C SS)) (x : S39) (h : dec0 cs = some x) : CQ (D := D) cs (D.enc 0 x) := by
  unfold dec0 at h
  split at h
  · obtain rfl := Option.some.inj h; exact CQ.rfl' _
  · cases h
theorem D_dec1 (cs : List (C SS)) (x : S47) (h : dec1 cs = some x) : CQ (D := D) cs (D.enc 1 x) := by
  unfold dec1 at h
  split at h
  · obtain rfl := Option.some.inj h; exact CQ.rfl' _
  · cases h
theorem D_dec2 (cs : List (C SS)) (x : S43) (h : dec2 cs = some x) : CQ (D := D) cs (D.enc 2 x) := by
  unfold dec2 at h
  split at h
  · split at h
    · split at h
      · obtain rfl := Option.some.inj h; exact CL1 (decS_le (by assumption)) (CL1 (decS_le (by assumption)) (CL0))
      · cases h
    · cases h
  · cases h
theorem D_dec3 (cs : List (C SS)) (x : S99) (h : dec3 cs = some x) : CQ (D := D) cs (D.enc 3 x) := by
  unfold dec3 at h
  split at h
  · split at h
    · split at h
      · obtain rfl := Option.some.inj h; exact CL1 (decS_le (by assumption)) (CL1 (decS_le (by assumption)) (CL1 (Ceq.rfl' _) (CL1 (Ceq.rfl' _) (CL1 (Ceq.rfl' _) (CL0)))))
      · cases h
    · cases h
  · cases h
theorem D_dec4 (cs : List (C SS)) (x : S192) (h : dec4 cs = some x) : CQ (D := D) cs (D.enc 4 x) := by
  unfold dec4 at h
  split at h
  · obtain rfl := Option.some.inj h; exact CQ.rfl' _
  · cases h
theorem D_dec5 (cs : List (C SS)) (x : S132) (h : dec5 cs = some x) : CQ (D := D) cs (D.enc 5 x) := by
  unfold dec5 at h
  split at h
  · split at h
    · split at h
      · split at h
        · obtain rfl := Option.some.inj h; exact CL1 (decP_le (by assumption)) (CL1 (decS_le (by assumption)) (CL1 (decS_le (by assumption)) (CL0)))
        · cases h
      · cases h
    · cases h
  · cases h
theorem D_dec6 (cs : List (C SS)) (x : S139) (h : dec6 cs = some x) : CQ (D := D) cs (D.enc 6 x) := by
  unfold dec6 at h
  split at h
  · obtain rfl := Option.some.inj h; exact CQ.rfl' _
  · cases h
theorem D_dec7 (cs : List (C SS)) (x : S180) (h : dec7 cs = some x) : CQ (D := D) cs (D.enc 7 x) := by
  unfold dec7 at h
  split at h
  · split at h
    · obtain rfl := Option.some.inj h; exact CL1 (decS_le (by assumption)) (CL1 (Ceq.rfl' _) (CL0))
    · cases h
  · cases h
theorem D_dec : ∀ n cs x, D.dec n cs = some x → cs.length = D.siz n ∧ ∀ (j : Nat) c c', cs[j]? = some c → (D.enc n x)[j]? = some c' → Ceq c c'
  | 0, cs, x, h => ⟨(D_dec0 cs x h).1.trans (D_len 0 x), (D_dec0 cs x h).2⟩
  | 1, cs, x, h => ⟨(D_dec1 cs x h).1.trans (D_len 1 x), (D_dec1 cs x h).2⟩
  | 2, cs, x, h => ⟨(D_dec2 cs x h).1.trans (D_len 2 x), (D_dec2 cs x h).2⟩
  | 3, cs, x, h => ⟨(D_dec3 cs x h).1.trans (D_len 3 x), (D_dec3 cs x h).2⟩
  | 4, cs, x, h => ⟨(D_dec4 cs x h).1.trans (D_len 4 x), (D_dec4 cs x h).2⟩
  | 5, cs, x, h => ⟨(D_dec5 cs x h).1.trans (D_len 5 x), (D_dec5 cs x h).2⟩
  | 6, cs, x, h => ⟨(D_dec6 cs x h).1.trans (D_len 6 x), (D_dec6 cs x h).2⟩
  | 7, cs, x, h => ⟨(D_dec7 cs x h).1.trans (D_len 7 x), (D_dec7 cs x h).2⟩
  | n + 8, cs, x, h => by cases h
theorem ti_of {t : TypeId} {i : TI D.S} (hs : (PP.info? t).isSome = true) (h1 : ((PP.info? t).get hs).size = i.size) (h2 : ((PP.info? t).get hs).bytes = i.bytes) (hz : ((PP.info? t).get hs).zero.isSome = true)
    (h3 : (((PP.info? t).get hs).zero.get hz).cells.toList.map some = i.zero.map valOf) (h4 : i.agg = true → ((PP.info? t).get hs).zero.get hz = .agg (((PP.info? t).get hs).zero.get hz).cells) :
    ∃ j, PP.info? t = some j ∧ j.size = i.size ∧ j.bytes = i.bytes ∧ ∃ z, j.zero = some z ∧ z.cells.toList.map some = i.zero.map valOf ∧ (i.agg = true → z = .agg z.cells) :=
  ⟨_, (Option.some_get hs).symm, h1, h2, _, (Option.some_get hz).symm, h3, h4⟩
theorem fund_of {u : Option TypeDesc} {fl0 : Array Field} (h0 : u = some (.struct fl0)) (ha : (fl0.toList.all fun fd => (PP.underlying fd.type).isSome) = true) :
    ∀ fl (fd : Field) (f : Nat), u = some (.struct fl) → fl[f]? = some fd → (PP.underlying fd.type).isSome := fun fl fd f h hf => by
  obtain rfl := TypeDesc.struct.inj (Option.some.inj (h0.symm.trans h))
  exact List.all_eq_true.mp ha fd (by rw [Array.mem_toList_iff]; exact Array.mem_of_getElem? hf)
theorem aund_of {u : Option TypeDesc} {n0 : Nat} {e0 : TypeId} (h0 : u = some (.array n0 e0)) (ha : (PP.underlying e0).isSome = true) :
    ∀ n e, u = some (.array n e) → (PP.underlying e).isSome := fun n e h => by
  obtain ⟨h1, rfl⟩ := TypeDesc.array.inj (Option.some.inj (h0.symm.trans h))
  exact ha
theorem fund_no {u : Option TypeDesc} {d : TypeDesc} (h0 : u = some d) (hd : ∀ fl, d ≠ .struct fl) :
    ∀ fl (fd : Field) (f : Nat), u = some (.struct fl) → fl[f]? = some fd → (PP.underlying fd.type).isSome := fun fl fd f h hf => by
  exact absurd (Option.some.inj (h0.symm.trans h)) (hd fl)
theorem aund_no {u : Option TypeDesc} {d : TypeDesc} (h0 : u = some d) (hd : ∀ n e, d ≠ .array n e) :
    ∀ n e, u = some (.array n e) → (PP.underlying e).isSome := fun n e h => by
  exact absurd (Option.some.inj (h0.symm.trans h)) (hd n e)
def i3 : TI D.S := ⟨.int .i64, false, 1, 8, [.int .i64 0], some (.int .i64), []⟩
theorem t3 : TiOk D PP 3 i3 where
  info := ti_of (by kernel_rfl) (by kernel_rfl) (by kernel_rfl) (by kernel_rfl) (by kernel_rfl) (fun h => by cases h)
  desc := Try.underlying3
  agg := by kernel_rfl
  pos := by decide
  und := by kernel_rfl
  byt := by decide
  zlen := rfl
  eqk := .inl rfl
  ty := fun τ h => by cases h; exact ⟨rfl, rfl⟩
  fld := fun fs h => by cases h
  fund := fund_no Try.underlying3 (fun _ h => by cases h)
  aund := aund_no Try.underlying3 (fun _ _ h => by cases h)
def i4 : TI D.S := ⟨.bool, false, 1, 1, [.bool false], some (.bool), []⟩
theorem t4 : TiOk D PP 4 i4 where
  info := ti_of (by kernel_rfl) (by kernel_rfl) (by kernel_rfl) (by kernel_rfl) (by kernel_rfl) (fun h => by cases h)
  desc := Try.underlying4
  agg := by kernel_rfl
  pos := by decide
  und := by kernel_rfl
  byt := by decide
  zlen := rfl
  eqk := .inl rfl
  ty := fun τ h => by cases h; exact ⟨rfl, rfl⟩
  fld := fun fs h => by cases h
  fund := fund_no Try.underlying4 (fun _ h => by cases h)
  aund := aund_no Try.underlying4 (fun _ _ h => by cases h)
def i5 : TI D.S := ⟨.int .u8, false, 1, 1, [.int .u8 0], some (.int .u8), []⟩
theorem t5 : TiOk D PP 5 i5 where
  info := ti_of (by kernel_rfl) (by kernel_rfl) (by kernel_rfl) (by kernel_rfl) (by kernel_rfl) (fun h => by cases h)
  desc := Try.underlying5
  agg := by kernel_rfl
  pos := by decide
  und := by kernel_rfl
  byt := by decide
  zlen := rfl
  eqk := .inl rfl
  ty := fun τ h => by cases h; exact ⟨rfl, rfl⟩
  fld := fun fs h => by cases h
  fund := fund_no Try.underlying5 (fun _ h => by cases h)
  aund := aund_no Try.underlying5 (fun _ _ h => by cases h)
def i9 : TI D.S := ⟨.str, false, 1, 16, [.str ByteArray.empty], some (.str), []⟩
theorem t9 : TiOk D PP 9 i9 where
  info := ti_of (by kernel_rfl) (by kernel_rfl) (by kernel_rfl) (by kernel_rfl) (by kernel_rfl) (fun h => by cases h)
  desc := Try.underlying9
  agg := by kernel_rfl
  pos := by decide
  und := by kernel_rfl
  byt := by decide
  zlen := rfl
  eqk := .inl rfl
  ty := fun τ h => by cases h; exact ⟨rfl, rfl⟩
  fld := fun fs h => by cases h
  fund := fund_no Try.underlying9 (fun _ h => by cases h)
  aund := aund_no Try.underlying9 (fun _ _ h => by cases h)
def i22 : TI D.S := ⟨.slice 43, false, 1, 24, [.nils], some (.sl (.st 2)), []⟩
theorem t22 : TiOk D PP 22 i22 where
  info := ti_of (by kernel_rfl) (by kernel_rfl) (by kernel_rfl) (by kernel_rfl) (by kernel_rfl) (fun h => by cases h)
  desc := Try.underlying22
  agg := by kernel_rfl
  pos := by decide
  und := by kernel_rfl
  byt := by decide
  zlen := rfl
  eqk := .inl rfl
  ty := fun τ h => by cases h; exact ⟨rfl, rfl⟩
  fld := fun fs h => by cases h
  fund := fund_no Try.underlying22 (fun _ h => by cases h)
  aund := aund_no Try.underlying22 (fun _ _ h => by cases h)
def i25 : TI D.S := ⟨.slice 40, false, 1, 24, [.nils], some (.sl (.sl (.st 0))), []⟩
theorem t25 : TiOk D PP 25 i25 where
  info := ti_of (by kernel_rfl) (by kernel_rfl) (by kernel_rfl) (by kernel_rfl) (by kernel_rfl) (fun h => by cases h)
  desc := Try.underlying25
  agg := by kernel_rfl
  pos := by decide
  und := by kernel_rfl
  byt := by decide
  zlen := rfl
  eqk := .inl rfl
  ty := fun τ h => by cases h; exact ⟨rfl, rfl⟩
  fld := fun fs h => by cases h
  fund := fund_no Try.underlying25 (fun _ h => by cases h)
  aund := aund_no Try.underlying25 (fun _ _ h => by cases h)
def i26 : TI D.S := ⟨.int .i64, false, 1, 8, [.int .i64 0], some (.int .i64), []⟩
theorem t26 : TiOk D PP 26 i26 where
  info := ti_of (by kernel_rfl) (by kernel_rfl) (by kernel_rfl) (by kernel_rfl) (by kernel_rfl) (fun h => by cases h)
  desc := Try.underlying26
  agg := by kernel_rfl
  pos := by decide
  und := by kernel_rfl
  byt := by decide
  zlen := rfl
  eqk := .inl rfl
  ty := fun τ h => by cases h; exact ⟨rfl, rfl⟩
  fld := fun fs h => by cases h
  fund := fund_no Try.underlying26 (fun _ h => by cases h)
  aund := aund_no Try.underlying26 (fun _ _ h => by cases h)
def i39 : TI D.S := ⟨.struct [(0, 1, false), (1, 1, false), (2, 1, false)], true, 3, 24, [.int .i64 0, .int .i64 0, .bool false], some (.st 0), [.int .i64, .int .i64, .bool]⟩
theorem t39 : TiOk D PP 39 i39 where
  info := ti_of (by kernel_rfl) (by kernel_rfl) (by kernel_rfl) (by kernel_rfl) (by kernel_rfl) (fun _ => by kernel_rfl)
  desc := ⟨_, Try.underlying39, by kernel_rfl⟩
  agg := by kernel_rfl
  pos := by decide
  und := by kernel_rfl
  byt := by decide
  zlen := rfl
  eqk := .inr ⟨20, by decide, by kernel_rfl, by kernel_rfl, by kernel_rfl⟩
  ty := fun τ h => by cases h; exact ⟨rfl, rfl⟩
  fld := fun fs h => by cases h; decide
  fund := fund_of Try.underlying39 (by kernel_rfl)
  aund := aund_no Try.underlying39 (fun _ _ h => by cases h)
def i40 : TI D.S := ⟨.slice 39, false, 1, 24, [.nils], some (.sl (.st 0)), []⟩
theorem t40 : TiOk D PP 40 i40 where
  info := ti_of (by kernel_rfl) (by kernel_rfl) (by kernel_rfl) (by kernel_rfl) (by kernel_rfl) (fun h => by cases h)
  desc := Try.underlying40
  agg := by kernel_rfl
  pos := by decide
  und := by kernel_rfl
  byt := by decide
  zlen := rfl
  eqk := .inl rfl
  ty := fun τ h => by cases h; exact ⟨rfl, rfl⟩
  fld := fun fs h => by cases h
  fund := fund_no Try.underlying40 (fun _ h => by cases h)
  aund := aund_no Try.underlying40 (fun _ _ h => by cases h)
def i41 : TI D.S := ⟨.slice 47, false, 1, 24, [.nils], some (.sl (.st 1)), []⟩
theorem t41 : TiOk D PP 41 i41 where
  info := ti_of (by kernel_rfl) (by kernel_rfl) (by kernel_rfl) (by kernel_rfl) (by kernel_rfl) (fun h => by cases h)
  desc := Try.underlying41
  agg := by kernel_rfl
  pos := by decide
  und := by kernel_rfl
  byt := by decide
  zlen := rfl
  eqk := .inl rfl
  ty := fun τ h => by cases h; exact ⟨rfl, rfl⟩
  fld := fun fs h => by cases h
  fund := fund_no Try.underlying41 (fun _ h => by cases h)
  aund := aund_no Try.underlying41 (fun _ _ h => by cases h)
def i43 : TI D.S := ⟨.struct [(0, 1, false), (1, 1, false)], true, 2, 48, [.nils, .nils], some (.st 2), []⟩
theorem t43 : TiOk D PP 43 i43 where
  info := ti_of (by kernel_rfl) (by kernel_rfl) (by kernel_rfl) (by kernel_rfl) (by kernel_rfl) (fun _ => by kernel_rfl)
  desc := ⟨_, Try.underlying43, by kernel_rfl⟩
  agg := by kernel_rfl
  pos := by decide
  und := by kernel_rfl
  byt := by decide
  zlen := rfl
  eqk := .inl rfl
  ty := fun τ h => by cases h; exact ⟨rfl, rfl⟩
  fld := fun fs h => by cases h; decide
  fund := fund_of Try.underlying43 (by kernel_rfl)
  aund := aund_no Try.underlying43 (fun _ _ h => by cases h)
def i44 : TI D.S := ⟨.int .i8, false, 1, 1, [.int .i8 0], some (.int .i8), []⟩
theorem t44 : TiOk D PP 44 i44 where
  info := ti_of (by kernel_rfl) (by kernel_rfl) (by kernel_rfl) (by kernel_rfl) (by kernel_rfl) (fun h => by cases h)
  desc := Try.underlying44
  agg := by kernel_rfl
  pos := by decide
  und := by kernel_rfl
  byt := by decide
  zlen := rfl
  eqk := .inl rfl
  ty := fun τ h => by cases h; exact ⟨rfl, rfl⟩
  fld := fun fs h => by cases h
  fund := fund_no Try.underlying44 (fun _ h => by cases h)
  aund := aund_no Try.underlying44 (fun _ _ h => by cases h)
def i47 : TI D.S := ⟨.struct [(0, 1, false), (1, 1, false), (2, 1, false), (3, 1, false), (4, 1, false), (5, 1, false), (6, 1, false)], true, 7, 56, [.int .i64 0, .int .i64 0, .int .i64 0, .int .i64 0, .int .i64 0, .int .i64 0, .int .i64 0], some (.st 1), [.int .i64, .int .i64, .int .i64, .int .i64, .int .i64, .int .i64, .int .i64]⟩
theorem t47 : TiOk D PP 47 i47 where
  info := ti_of (by kernel_rfl) (by kernel_rfl) (by kernel_rfl) (by kernel_rfl) (by kernel_rfl) (fun _ => by kernel_rfl)
  desc := ⟨_, Try.underlying47, by kernel_rfl⟩
  agg := by kernel_rfl
  pos := by decide
  und := by kernel_rfl
  byt := by decide
  zlen := rfl
  eqk := .inr ⟨20, by decide, by kernel_rfl, by kernel_rfl, by kernel_rfl⟩
  ty := fun τ h => by cases h; exact ⟨rfl, rfl⟩
  fld := fun fs h => by cases h; decide
  fund := fund_of Try.underlying47 (by kernel_rfl)
  aund := aund_no Try.underlying47 (fun _ _ h => by cases h)
def i57 : TI D.S := ⟨.int .u16, false, 1, 2, [.int .u16 0], some (.int .u16), []⟩
theorem t57 : TiOk D PP 57 i57 where
  info := ti_of (by kernel_rfl) (by kernel_rfl) (by kernel_rfl) (by kernel_rfl) (by kernel_rfl) (fun h => by cases h)
  desc := Try.underlying57
  agg := by kernel_rfl
  pos := by decide
  und := by kernel_rfl
  byt := by decide
  zlen := rfl
  eqk := .inl rfl
  ty := fun τ h => by cases h; exact ⟨rfl, rfl⟩
  fld := fun fs h => by cases h
  fund := fund_no Try.underlying57 (fun _ h => by cases h)
  aund := aund_no Try.underlying57 (fun _ _ h => by cases h)
def i86 : TI D.S := ⟨.slice 5, false, 1, 24, [.nils], some (.sl (.int .u8)), []⟩
theorem t86 : TiOk D PP 86 i86 where
  info := ti_of (by kernel_rfl) (by kernel_rfl) (by kernel_rfl) (by kernel_rfl) (by kernel_rfl) (fun h => by cases h)
  desc := Try.underlying86
  agg := by kernel_rfl
  pos := by decide
  und := by kernel_rfl
  byt := by decide
  zlen := rfl
  eqk := .inl rfl
  ty := fun τ h => by cases h; exact ⟨rfl, rfl⟩
  fld := fun fs h => by cases h
  fund := fund_no Try.underlying86 (fun _ h => by cases h)
  aund := aund_no Try.underlying86 (fun _ _ h => by cases h)
def i90 : TI D.S := ⟨.slice 3, false, 1, 24, [.nils], some (.sl (.int .i64)), []⟩
theorem t90 : TiOk D PP 90 i90 where
  info := ti_of (by kernel_rfl) (by kernel_rfl) (by kernel_rfl) (by kernel_rfl) (by kernel_rfl) (fun h => by cases h)
  desc := Try.underlying90
  agg := by kernel_rfl
  pos := by decide
  und := by kernel_rfl
  byt := by decide
  zlen := rfl
  eqk := .inl rfl
  ty := fun τ h => by cases h; exact ⟨rfl, rfl⟩
  fld := fun fs h => by cases h
  fund := fund_no Try.underlying90 (fun _ h => by cases h)
  aund := aund_no Try.underlying90 (fun _ _ h => by cases h)
def i97 : TI D.S := ⟨.ptr 99, false, 1, 8, [.nilp], none, []⟩
theorem t97 : TiOk D PP 97 i97 where
  info := ti_of (by kernel_rfl) (by kernel_rfl) (by kernel_rfl) (by kernel_rfl) (by kernel_rfl) (fun h => by cases h)
  desc := Try.underlying97
  agg := by kernel_rfl
  pos := by decide
  und := by kernel_rfl
  byt := by decide
  zlen := rfl
  eqk := .inl rfl
  ty := fun τ h => by cases h
  fld := fun fs h => by cases h
  fund := fund_no Try.underlying97 (fun _ h => by cases h)
  aund := aund_no Try.underlying97 (fun _ _ h => by cases h)
def i99 : TI D.S := ⟨.struct [(0, 1, false), (1, 1, false), (2, 1, false), (3, 1, false), (4, 1, false)], true, 5, 72, [.nils, .nils, .int .i64 0, .int .i64 0, .bool false], some (.st 3), []⟩
theorem t99 : TiOk D PP 99 i99 where
  info := ti_of (by kernel_rfl) (by kernel_rfl) (by kernel_rfl) (by kernel_rfl) (by kernel_rfl) (fun _ => by kernel_rfl)
  desc := ⟨_, Try.underlying99, by kernel_rfl⟩
  agg := by kernel_rfl
  pos := by decide
  und := by kernel_rfl
  byt := by decide
  zlen := rfl
  eqk := .inl rfl
  ty := fun τ h => by cases h; exact ⟨rfl, rfl⟩
  fld := fun fs h => by cases h; decide
  fund := fund_of Try.underlying99 (by kernel_rfl)
  aund := aund_no Try.underlying99 (fun _ _ h => by cases h)
def i109 : TI D.S := ⟨.func, false, 1, 8, [.nilf], none, []⟩
theorem t109 : TiOk D PP 109 i109 where
  info := ti_of (by kernel_rfl) (by kernel_rfl) (by kernel_rfl) (by kernel_rfl) (by kernel_rfl) (fun h => by cases h)
  desc := ⟨_, _, _, Try.underlying109⟩
  agg := by kernel_rfl
  pos := by decide
  und := by kernel_rfl
  byt := by decide
  zlen := rfl
  eqk := .inl rfl
  ty := fun τ h => by cases h
  fld := fun fs h => by cases h
  fund := fund_no Try.underlying109 (fun _ h => by cases h)
  aund := aund_no Try.underlying109 (fun _ _ h => by cases h)
def i126 : TI D.S := ⟨.int .u32, false, 1, 4, [.int .u32 0], some (.int .u32), []⟩
theorem t126 : TiOk D PP 126 i126 where
  info := ti_of (by kernel_rfl) (by kernel_rfl) (by kernel_rfl) (by kernel_rfl) (by kernel_rfl) (fun h => by cases h)
  desc := Try.underlying126
  agg := by kernel_rfl
  pos := by decide
  und := by kernel_rfl
  byt := by decide
  zlen := rfl
  eqk := .inl rfl
  ty := fun τ h => by cases h; exact ⟨rfl, rfl⟩
  fld := fun fs h => by cases h
  fund := fund_no Try.underlying126 (fun _ h => by cases h)
  aund := aund_no Try.underlying126 (fun _ _ h => by cases h)
def i128 : TI D.S := ⟨.ptr 132, false, 1, 8, [.nilp], none, []⟩
theorem t128 : TiOk D PP 128 i128 where
  info := ti_of (by kernel_rfl) (by kernel_rfl) (by kernel_rfl) (by kernel_rfl) (by kernel_rfl) (fun h => by cases h)
  desc := Try.underlying128
  agg := by kernel_rfl
  pos := by decide
  und := by kernel_rfl
  byt := by decide
  zlen := rfl
  eqk := .inl rfl
  ty := fun τ h => by cases h
  fld := fun fs h => by cases h
  fund := fund_no Try.underlying128 (fun _ h => by cases h)
  aund := aund_no Try.underlying128 (fun _ _ h => by cases h)
def i129 : TI D.S := ⟨.ptr 192, false, 1, 8, [.nilp], none, []⟩
theorem t129 : TiOk D PP 129 i129 where
  info := ti_of (by kernel_rfl) (by kernel_rfl) (by kernel_rfl) (by kernel_rfl) (by kernel_rfl) (fun h => by cases h)
  desc := Try.underlying129
  agg := by kernel_rfl
  pos := by decide
  und := by kernel_rfl
  byt := by decide
  zlen := rfl
  eqk := .inl rfl
  ty := fun τ h => by cases h
  fld := fun fs h => by cases h
  fund := fund_no Try.underlying129 (fun _ h => by cases h)
  aund := aund_no Try.underlying129 (fun _ _ h => by cases h)
def i132 : TI D.S := ⟨.struct [(0, 1, false), (1, 1, false), (2, 1, false)], true, 3, 56, [.nilp, .nils, .nils], some (.st 5), []⟩
theorem t132 : TiOk D PP 132 i132 where
  info := ti_of (by kernel_rfl) (by kernel_rfl) (by kernel_rfl) (by kernel_rfl) (by kernel_rfl) (fun _ => by kernel_rfl)
  desc := ⟨_, Try.underlying132, by kernel_rfl⟩
  agg := by kernel_rfl
  pos := by decide
  und := by kernel_rfl
  byt := by decide
  zlen := rfl
  eqk := .inl rfl
  ty := fun τ h => by cases h; exact ⟨rfl, rfl⟩
  fld := fun fs h => by cases h; decide
  fund := fund_of Try.underlying132 (by kernel_rfl)
  aund := aund_no Try.underlying132 (fun _ _ h => by cases h)
def i133 : TI D.S := ⟨.int .i16, false, 1, 2, [.int .i16 0], some (.int .i16), []⟩
theorem t133 : TiOk D PP 133 i133 where
  info := ti_of (by kernel_rfl) (by kernel_rfl) (by kernel_rfl) (by kernel_rfl) (by kernel_rfl) (fun h => by cases h)
  desc := Try.underlying133
  agg := by kernel_rfl
  pos := by decide
  und := by kernel_rfl
  byt := by decide
  zlen := rfl
  eqk := .inl rfl
  ty := fun τ h => by cases h; exact ⟨rfl, rfl⟩
  fld := fun fs h => by cases h
  fund := fund_no Try.underlying133 (fun _ h => by cases h)
  aund := aund_no Try.underlying133 (fun _ _ h => by cases h)
def i137 : TI D.S := ⟨.ptr 139, false, 1, 8, [.nilp], none, []⟩
theorem t137 : TiOk D PP 137 i137 where
  info := ti_of (by kernel_rfl) (by kernel_rfl) (by kernel_rfl) (by kernel_rfl) (by kernel_rfl) (fun h => by cases h)
  desc := Try.underlying137
  agg := by kernel_rfl
  pos := by decide
  und := by kernel_rfl
  byt := by decide
  zlen := rfl
  eqk := .inl rfl
  ty := fun τ h => by cases h
  fld := fun fs h => by cases h
  fund := fund_no Try.underlying137 (fun _ h => by cases h)
  aund := aund_no Try.underlying137 (fun _ _ h => by cases h)
def i139 : TI D.S := ⟨.struct [(0, 1, false), (1, 1, false), (2, 1, false)], true, 3, 32, [.str ByteArray.empty, .int .i64 0, .bool false], some (.st 6), [.str, .int .i64, .bool]⟩
theorem t139 : TiOk D PP 139 i139 where
  info := ti_of (by kernel_rfl) (by kernel_rfl) (by kernel_rfl) (by kernel_rfl) (by kernel_rfl) (fun _ => by kernel_rfl)
  desc := ⟨_, Try.underlying139, by kernel_rfl⟩
  agg := by kernel_rfl
  pos := by decide
  und := by kernel_rfl
  byt := by decide
  zlen := rfl
  eqk := .inr ⟨20, by decide, by kernel_rfl, by kernel_rfl, by kernel_rfl⟩
  ty := fun τ h => by cases h; exact ⟨rfl, rfl⟩
  fld := fun fs h => by cases h; decide
  fund := fund_of Try.underlying139 (by kernel_rfl)
  aund := aund_no Try.underlying139 (fun _ _ h => by cases h)
def i142 : TI D.S := ⟨.slice 126, false, 1, 24, [.nils], some (.sl (.int .u32)), []⟩
theorem t142 : TiOk D PP 142 i142 where
  info := ti_of (by kernel_rfl) (by kernel_rfl) (by kernel_rfl) (by kernel_rfl) (by kernel_rfl) (fun h => by cases h)
  desc := Try.underlying142
  agg := by kernel_rfl
  pos := by decide
  und := by kernel_rfl
  byt := by decide
  zlen := rfl
  eqk := .inl rfl
  ty := fun τ h => by cases h; exact ⟨rfl, rfl⟩
  fld := fun fs h => by cases h
  fund := fund_no Try.underlying142 (fun _ h => by cases h)
  aund := aund_no Try.underlying142 (fun _ _ h => by cases h)
def i180 : TI D.S := ⟨.struct [(0, 1, false), (1, 1, false)], true, 2, 32, [.nils, .int .i64 0], some (.st 7), []⟩
theorem t180 : TiOk D PP 180 i180 where
  info := ti_of (by kernel_rfl) (by kernel_rfl) (by kernel_rfl) (by kernel_rfl) (by kernel_rfl) (fun _ => by kernel_rfl)
  desc := ⟨_, Try.underlying180, by kernel_rfl⟩
  agg := by kernel_rfl
  pos := by decide
  und := by kernel_rfl
  byt := by decide
  zlen := rfl
  eqk := .inl rfl
  ty := fun τ h => by cases h; exact ⟨rfl, rfl⟩
  fld := fun fs h => by cases h; decide
  fund := fund_of Try.underlying180 (by kernel_rfl)
  aund := aund_no Try.underlying180 (fun _ _ h => by cases h)
def i192 : TI D.S := ⟨.struct [(0, 1, false), (1, 1, false), (2, 1, false)], true, 3, 32, [.str ByteArray.empty, .int .i64 0, .bool false], some (.st 4), [.str, .int .i64, .bool]⟩
theorem t192 : TiOk D PP 192 i192 where
  info := ti_of (by kernel_rfl) (by kernel_rfl) (by kernel_rfl) (by kernel_rfl) (by kernel_rfl) (fun _ => by kernel_rfl)
  desc := ⟨_, Try.underlying192, by kernel_rfl⟩
  agg := by kernel_rfl
  pos := by decide
  und := by kernel_rfl
  byt := by decide
  zlen := rfl
  eqk := .inr ⟨20, by decide, by kernel_rfl, by kernel_rfl, by kernel_rfl⟩
  ty := fun τ h => by cases h; exact ⟨rfl, rfl⟩
  fld := fun fs h => by cases h; decide
  fund := fund_of Try.underlying192 (by kernel_rfl)
  aund := aund_no Try.underlying192 (fun _ _ h => by cases h)
def i199 : TI D.S := ⟨.int .u64, false, 1, 8, [.int .u64 0], some (.int .u64), []⟩
theorem t199 : TiOk D PP 199 i199 where
  info := ti_of (by kernel_rfl) (by kernel_rfl) (by kernel_rfl) (by kernel_rfl) (by kernel_rfl) (fun h => by cases h)
  desc := Try.underlying199
  agg := by kernel_rfl
  pos := by decide
  und := by kernel_rfl
  byt := by decide
  zlen := rfl
  eqk := .inl rfl
  ty := fun τ h => by cases h; exact ⟨rfl, rfl⟩
  fld := fun fs h => by cases h
  fund := fund_no Try.underlying199 (fun _ h => by cases h)
  aund := aund_no Try.underlying199 (fun _ _ h => by cases h)
def i209 : TI D.S := ⟨.ptr 47, false, 1, 8, [.nilp], none, []⟩
theorem t209 : TiOk D PP 209 i209 where
  info := ti_of (by kernel_rfl) (by kernel_rfl) (by kernel_rfl) (by kernel_rfl) (by kernel_rfl) (fun h => by cases h)
  desc := Try.underlying209
  agg := by kernel_rfl
  pos := by decide
  und := by kernel_rfl
  byt := by decide
  zlen := rfl
  eqk := .inl rfl
  ty := fun τ h => by cases h
  fld := fun fs h => by cases h
  fund := fund_no Try.underlying209 (fun _ h => by cases h)
  aund := aund_no Try.underlying209 (fun _ _ h => by cases h)
def i222 : TI D.S := ⟨.ptr 180, false, 1, 8, [.nilp], none, []⟩
theorem t222 : TiOk D PP 222 i222 where
  info := ti_of (by kernel_rfl) (by kernel_rfl) (by kernel_rfl) (by kernel_rfl) (by kernel_rfl) (fun h => by cases h)
  desc := Try.underlying222
  agg := by kernel_rfl
  pos := by decide
  und := by kernel_rfl
  byt := by decide
  zlen := rfl
  eqk := .inl rfl
  ty := fun τ h => by cases h
  fld := fun fs h => by cases h
  fund := fund_no Try.underlying222 (fun _ h => by cases h)
  aund := aund_no Try.underlying222 (fun _ _ h => by cases h)
theorem D_ti : ∀ t i, (t, i) ∈ D.ti → TiOk D PP t i := fun t i h => by
  have h : (t, i) ∈ [(3, i3), (4, i4), (5, i5), (9, i9), (22, i22), (25, i25), (26, i26), (39, i39), (40, i40), (41, i41), (43, i43), (44, i44), (47, i47), (57, i57), (86, i86), (90, i90), (97, i97), (99, i99), (109, i109), (126, i126), (128, i128), (129, i129), (132, i132), (133, i133), (137, i137), (139, i139), (142, i142), (180, i180), (192, i192), (199, i199), (209, i209), (222, i222)] := h
  simp only [List.mem_cons, List.not_mem_nil, or_false, Prod.mk.injEq] at h
  rcases h with ⟨rfl, rfl⟩ | ⟨rfl, rfl⟩ | ⟨rfl, rfl⟩ | ⟨rfl, rfl⟩ | ⟨rfl, rfl⟩ | ⟨rfl, rfl⟩ | ⟨rfl, rfl⟩ | ⟨rfl, rfl⟩ | ⟨rfl, rfl⟩ | ⟨rfl, rfl⟩ | ⟨rfl, rfl⟩ | ⟨rfl, rfl⟩ | ⟨rfl, rfl⟩ | ⟨rfl, rfl⟩ | ⟨rfl, rfl⟩ | ⟨rfl, rfl⟩ | ⟨rfl, rfl⟩ | ⟨rfl, rfl⟩ | ⟨rfl, rfl⟩ | ⟨rfl, rfl⟩ | ⟨rfl, rfl⟩ | ⟨rfl, rfl⟩ | ⟨rfl, rfl⟩ | ⟨rfl, rfl⟩ | ⟨rfl, rfl⟩ | ⟨rfl, rfl⟩ | ⟨rfl, rfl⟩ | ⟨rfl, rfl⟩ | ⟨rfl, rfl⟩ | ⟨rfl, rfl⟩ | ⟨rfl, rfl⟩ | ⟨rfl, rfl⟩
  · exact t3
  · exact t4
  · exact t5
  · exact t9
  · exact t22
  · exact t25
  · exact t26
  · exact t39
  · exact t40
  · exact t41
  · exact t43
  · exact t44
  · exact t47
  · exact t57
  · exact t86
  · exact t90
  · exact t97
  · exact t99
  · exact t109
  · exact t126
  · exact t128
  · exact t129
  · exact t132
  · exact t133
  · exact t137
  · exact t139
  · exact t142
  · exact t180
  · exact t192
  · exact t199
  · exact t209
  · exact t222
theorem lw : Lawful D PP where
  len := D_len
  dec := D_dec
  pure := D_pure
  ti := D_ti
  mixed := by kernel_rfl
end Go.Proofs.Ytalghbndblgndaa.Ev
