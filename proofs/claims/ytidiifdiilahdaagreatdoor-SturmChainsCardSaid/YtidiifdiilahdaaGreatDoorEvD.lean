/- Printed by a program of this claim: the seat's types, as they are told by value; that the table says what the program says. -/
import Derived.Test.YtidiifdiilahdaaGreatDoorProg
import Derived.Test.YtidiifdiilahdaaGreatDoorEvAd
import Derived.KernelRfl
import Derived.Lib.TrailingZeros
namespace Go.Proofs.YtidiifdiilahdaaGreatDoor.Ev
open Go
set_option linter.unusedVariables false
structure S60 where
  mk ::
  f0 : Bool
  f1 : List (Int)
structure S24 where
  mk ::
  f0 : Int
  f1 : Int
structure S69 where
  mk ::
  f0 : Bool
  f1 : List (Int)
structure S104 where
  mk ::
  f0 : S24
  f1 : S24
structure S100 where
  mk ::
  f0 : S24
  f1 : List (S104)
  f2 : Bool
structure S117 where
  mk ::
  f0 : Int
  f1 : Int
structure S147 where
  mk ::
  f0 : Bool
  f1 : S117
structure Ih where
  T : Type
  d : T
def tabT (n : Nat) : Ih := match n with
  | 0 => ⟨S60, ⟨false, []⟩⟩
  | 1 => ⟨S24, ⟨0, 0⟩⟩
  | 2 => ⟨S69, ⟨false, []⟩⟩
  | 3 => ⟨S104, ⟨⟨0, 0⟩, ⟨0, 0⟩⟩⟩
  | 4 => ⟨S100, ⟨⟨0, 0⟩, [], false⟩⟩
  | 5 => ⟨S117, ⟨0, 0⟩⟩
  | 6 => ⟨S147, ⟨false, ⟨0, 0⟩⟩⟩
  | _ => ⟨Unit, ()⟩
def SS (n : Nat) : Type := (tabT n).T
def decS (t : Ty) (c : C SS) : Option (List (T SS t)) := match c with
  | .lst t' l => match Ty.eq? t' t with | some ⟨h⟩ => some (h ▸ l) | none => none
  | .nils => some []
  | .emp => some []
  | _ => none
def dec0 (l : List (C SS)) : Option S60 := match l with | [.bool a0, a1] => ((match decS (.int .u32) a1 with | some ba1 => some (⟨a0, ba1⟩ : S60) | none => none)) | _ => none
def dec1 (l : List (C SS)) : Option S24 := match l with | [.int .i64 a0, .int .i64 a1] => some (⟨a0, a1⟩ : S24) | _ => none
def dec2 (l : List (C SS)) : Option S69 := match l with | [.bool a0, a1] => ((match decS (.int .u64) a1 with | some ba1 => some (⟨a0, ba1⟩ : S69) | none => none)) | _ => none
def dec3 (l : List (C SS)) : Option S104 := match l with | [.int .i64 a0, .int .i64 a1, .int .i64 a2, .int .i64 a3] => some (⟨⟨a0, a1⟩, ⟨a2, a3⟩⟩ : S104) | _ => none
def dec4 (l : List (C SS)) : Option S100 := match l with | [.int .i64 a0, .int .i64 a1, a2, .bool a3] => ((match decS (.st 3) a2 with | some ba2 => some (⟨⟨a0, a1⟩, ba2, a3⟩ : S100) | none => none)) | _ => none
def dec5 (l : List (C SS)) : Option S117 := match l with | [.int .u64 a0, .int .u64 a1] => some (⟨a0, a1⟩ : S117) | _ => none
def dec6 (l : List (C SS)) : Option S147 := match l with | [.bool a0, .int .u64 a1, .int .u64 a2] => some (⟨a0, ⟨a1, a2⟩⟩ : S147) | _ => none
def D : Tys where
  S := SS
  enc := fun n => match n with
    | 0 => fun (x : S60) => [.bool x.f0, .lst (.int .u32) x.f1]
    | 1 => fun (x : S24) => [.int .i64 x.f0, .int .i64 x.f1]
    | 2 => fun (x : S69) => [.bool x.f0, .lst (.int .u64) x.f1]
    | 3 => fun (x : S104) => [.int .i64 x.f0.f0, .int .i64 x.f0.f1, .int .i64 x.f1.f0, .int .i64 x.f1.f1]
    | 4 => fun (x : S100) => [.int .i64 x.f0.f0, .int .i64 x.f0.f1, .lst (.st 3) x.f1, .bool x.f2]
    | 5 => fun (x : S117) => [.int .u64 x.f0, .int .u64 x.f1]
    | 6 => fun (x : S147) => [.bool x.f0, .int .u64 x.f1.f0, .int .u64 x.f1.f1]
    | _ => fun _ => []
  dec := fun n => match n with
    | 0 => dec0
    | 1 => dec1
    | 2 => dec2
    | 3 => dec3
    | 4 => dec4
    | 5 => dec5
    | 6 => dec6
    | _ => fun _ => none
  dfl := fun n => (tabT n).d
  siz := fun n => match n with | 0 => 2 | 1 => 2 | 2 => 2 | 3 => 4 | 4 => 4 | 5 => 2 | 6 => 3 | _ => 0
  ti := [(2, ⟨.int .i64, false, 1, 8, [.int .i64 0], some (.int .i64), []⟩),
    (3, ⟨.int .i64, false, 1, 8, [.int .i64 0], some (.int .i64), []⟩),
    (4, ⟨.bool, false, 1, 1, [.bool false], some (.bool), []⟩),
    (5, ⟨.int .u8, false, 1, 1, [.int .u8 0], some (.int .u8), []⟩),
    (9, ⟨.str, false, 1, 16, [.str ByteArray.empty], some (.str), []⟩),
    (22, ⟨.slice 60, false, 1, 24, [.nils], some (.sl (.st 0)), []⟩),
    (24, ⟨.struct [(0, 1, false), (1, 1, false)], true, 2, 16, [.int .i64 0, .int .i64 0], some (.st 1), [.int .i64, .int .i64]⟩),
    (27, ⟨.slice 69, false, 1, 24, [.nils], some (.sl (.st 2)), []⟩),
    (29, ⟨.slice 22, false, 1, 24, [.nils], some (.sl (.sl (.st 0))), []⟩),
    (30, ⟨.int .i64, false, 1, 8, [.int .i64 0], some (.int .i64), []⟩),
    (33, ⟨.slice 27, false, 1, 24, [.nils], some (.sl (.sl (.st 2))), []⟩),
    (58, ⟨.slice 105, false, 1, 24, [.nils], some (.sl (.int .u32)), []⟩),
    (60, ⟨.struct [(0, 1, false), (1, 1, false)], true, 2, 32, [.bool false, .nils], some (.st 0), []⟩),
    (64, ⟨.slice 104, false, 1, 24, [.nils], some (.sl (.st 3)), []⟩),
    (67, ⟨.slice 88, false, 1, 24, [.nils], some (.sl (.int .u64)), []⟩),
    (69, ⟨.struct [(0, 1, false), (1, 1, false)], true, 2, 32, [.bool false, .nils], some (.st 2), []⟩),
    (86, ⟨.slice 2, false, 1, 24, [.nils], some (.sl (.int .i64)), []⟩),
    (88, ⟨.int .u64, false, 1, 8, [.int .u64 0], some (.int .u64), []⟩),
    (93, ⟨.func, false, 1, 8, [.nilf], none, []⟩),
    (98, ⟨.ptr 100, false, 1, 8, [.nilp], none, []⟩),
    (100, ⟨.struct [(0, 2, true), (2, 1, false), (3, 1, false)], true, 4, 48, [.int .i64 0, .int .i64 0, .nils, .bool false], some (.st 4), []⟩),
    (104, ⟨.struct [(0, 2, true), (2, 2, true)], true, 4, 32, [.int .i64 0, .int .i64 0, .int .i64 0, .int .i64 0], some (.st 3), [.int .i64, .int .i64, .int .i64, .int .i64]⟩),
    (105, ⟨.int .u32, false, 1, 4, [.int .u32 0], some (.int .u32), []⟩),
    (117, ⟨.struct [(0, 1, false), (1, 1, false)], true, 2, 16, [.int .u64 0, .int .u64 0], some (.st 5), [.int .u64, .int .u64]⟩),
    (132, ⟨.int .u64, false, 1, 8, [.int .u64 0], some (.int .u64), []⟩),
    (147, ⟨.struct [(0, 1, false), (1, 2, true)], true, 3, 24, [.bool false, .int .u64 0, .int .u64 0], some (.st 6), [.bool, .int .u64, .int .u64]⟩),
    (171, ⟨.array 64 1 false, true, 64, 64, [.int .u8 0, .int .u8 0, .int .u8 0, .int .u8 0, .int .u8 0, .int .u8 0, .int .u8 0, .int .u8 0, .int .u8 0, .int .u8 0, .int .u8 0, .int .u8 0, .int .u8 0, .int .u8 0, .int .u8 0, .int .u8 0, .int .u8 0, .int .u8 0, .int .u8 0, .int .u8 0, .int .u8 0, .int .u8 0, .int .u8 0, .int .u8 0, .int .u8 0, .int .u8 0, .int .u8 0, .int .u8 0, .int .u8 0, .int .u8 0, .int .u8 0, .int .u8 0, .int .u8 0, .int .u8 0, .int .u8 0, .int .u8 0, .int .u8 0, .int .u8 0, .int .u8 0, .int .u8 0, .int .u8 0, .int .u8 0, .int .u8 0, .int .u8 0, .int .u8 0, .int .u8 0, .int .u8 0, .int .u8 0, .int .u8 0, .int .u8 0, .int .u8 0, .int .u8 0, .int .u8 0, .int .u8 0, .int .u8 0, .int .u8 0, .int .u8 0, .int .u8 0, .int .u8 0, .int .u8 0, .int .u8 0, .int .u8 0, .int .u8 0, .int .u8 0], none, []⟩),
    (172, ⟨.slice 3, false, 1, 24, [.nils], some (.sl (.int .i64)), []⟩),
    (177, ⟨.iface, false, 1, 16, [.nili], none, []⟩)]
  mode := [(96, ⟨[.val], true, none⟩), (95, ⟨[.val, .val], true, none⟩), (51, ⟨[.val], true, none⟩), (66, ⟨[.val], false, none⟩), (52, ⟨[.val], true, none⟩), (21, ⟨[.val], true, none⟩), (80, ⟨[.val], false, none⟩), (79, ⟨[.val], false, none⟩), (122, ⟨[.val], false, none⟩), (104, ⟨[.val], false, none⟩), (123, ⟨[.val, .val], false, none⟩), (135, ⟨[.val], false, none⟩), (124, ⟨[.val], false, none⟩), (125, ⟨[.val, .val], false, none⟩), (105, ⟨[.val, .val], false, none⟩), (136, ⟨[.val], false, none⟩), (127, ⟨[.val, .val], false, none⟩), (126, ⟨[.val], false, none⟩), (106, ⟨[.val, .val], false, none⟩), (128, ⟨[.val, .val, .val], false, none⟩), (107, ⟨[.val, .val], false, none⟩), (78, ⟨[.val, .val], false, none⟩), (38, ⟨[.val], false, none⟩), (137, ⟨[.val, .val], false, none⟩), (129, ⟨[.val, .val], false, none⟩), (111, ⟨[.val, .val], false, none⟩), (82, ⟨[.val, .val], false, none⟩), (83, ⟨[.val], false, none⟩), (43, ⟨[.val, .val, .val], false, none⟩), (70, ⟨[.val, .val], true, none⟩), (116, ⟨[.val, .val], false, none⟩), (97, ⟨[.val, .val], true, none⟩), (131, ⟨[.val], false, none⟩), (117, ⟨[.val, .val], false, none⟩), (132, ⟨[.val], false, none⟩), (118, ⟨[.val, .val], false, none⟩), (98, ⟨[.val, .val], false, none⟩), (99, ⟨[.val, .val], true, none⟩), (56, ⟨[.val, .val], true, none⟩), (65, ⟨[.val, .val, .val], true, none⟩), (29, ⟨[.val, .val], true, none⟩), (57, ⟨[.val, .val], true, none⟩), (61, ⟨[.val, .val], true, none⟩), (103, ⟨[.val], true, some ⟨[.val], [(0, none)]⟩⟩), (139, ⟨[.val], false, none⟩), (143, ⟨[.val], false, none⟩), (138, ⟨[.val, .val, .val], false, none⟩), (130, ⟨[.val, .val], true, none⟩), (112, ⟨[.val, .val], true, none⟩), (84, ⟨[.val, .val], true, none⟩), (67, ⟨[.val], true, none⟩), (68, ⟨[.val, .val], true, none⟩), (71, ⟨[.val, .val], true, none⟩), (32, ⟨[.val], true, none⟩), (44, ⟨[.val, .val, .val], true, none⟩), (30, ⟨[.val], true, none⟩), (69, ⟨[.val], true, none⟩), (31, ⟨[.val, .val], true, none⟩), (9, ⟨[.val], true, none⟩), (25, ⟨[.val, .val], true, none⟩), (39, ⟨[.val, .val], false, none⟩), (12, ⟨[.val, .val], false, none⟩), (45, ⟨[.val, .val, .val], false, none⟩), (16, ⟨[.val, .val, .val], false, none⟩), (113, ⟨[.val], true, some ⟨[.val], [(0, none)]⟩⟩), (85, ⟨[.val, .val, .val], true, none⟩), (86, ⟨[.val, .val], true, none⟩), (47, ⟨[.val, .val, .val], true, none⟩), (46, ⟨[.val], false, none⟩), (17, ⟨[.val, .val, .val], false, none⟩), (145, ⟨[.val, .val, .val], false, none⟩), (142, ⟨[.val, .val], false, none⟩), (134, ⟨[.val, .val], false, none⟩), (144, ⟨[.val, .val], false, none⟩), (140, ⟨[.val, .val], false, none⟩), (141, ⟨[.val, .val], false, none⟩), (133, ⟨[.val, .val], false, none⟩), (119, ⟨[.val, .val], false, none⟩), (100, ⟨[.ref, .val, .val], true, some ⟨[.ref 0 [(2, none)], .val, .val], []⟩⟩), (120, ⟨[.val, .val], false, none⟩), (121, ⟨[.val, .val], false, none⟩), (101, ⟨[.val, .val], false, none⟩), (62, ⟨[.ref, .val, .val, .val, .val], true, some ⟨[.ref 0 [(2, none)], .val, .val, .val, .val], []⟩⟩), (63, ⟨[.val], true, some ⟨[.val], [(0, none)]⟩⟩), (26, ⟨[.val, .val, .val, .val], true, none⟩), (6, ⟨[], false, none⟩), (7, ⟨[.val], false, none⟩), (102, ⟨[.val], true, none⟩), (64, ⟨[.val, .val], true, none⟩), (27, ⟨[.val], true, none⟩), (41, ⟨[.val], false, none⟩), (28, ⟨[.val], true, none⟩), (8, ⟨[.val], true, none⟩), (73, ⟨[.val], true, none⟩), (77, ⟨[.val, .val], false, none⟩), (72, ⟨[.val, .val], true, none⟩), (33, ⟨[.val], true, none⟩), (75, ⟨[.val, .val], true, none⟩), (74, ⟨[.val], true, none⟩), (108, ⟨[.val, .val], true, none⟩), (109, ⟨[.val, .val], false, none⟩), (110, ⟨[.val, .val], true, none⟩), (81, ⟨[.val, .val], true, none⟩), (76, ⟨[.val, .val], true, none⟩), (35, ⟨[.val, .val], true, none⟩), (34, ⟨[.val], true, none⟩), (10, ⟨[.val], true, none⟩), (37, ⟨[.val], true, none⟩), (36, ⟨[.val, .val], false, none⟩), (11, ⟨[.val, .val], false, none⟩), (54, ⟨[.val], false, none⟩), (53, ⟨[.val, .val], false, none⟩), (40, ⟨[.val], false, none⟩), (13, ⟨[.val], false, none⟩), (42, ⟨[.val, .val], true, none⟩), (14, ⟨[.val, .val], false, none⟩), (3, ⟨[.val, .val], false, none⟩)]
  gl := [(0, Lib.deBruijn64tab.map fun (n : Nat) => Value.int .u8 (n : Int))]
def grd {R : Type} (b : Bool) (k : Option R) : Option R := cond b k none
abbrev wr (k : IntKind) (n : Int) : Int := k.wrap n
def z0 : S60 := ⟨false, []⟩
def z1 : S24 := ⟨0, 0⟩
def z2 : S69 := ⟨false, []⟩
def z3 : S104 := ⟨⟨0, 0⟩, ⟨0, 0⟩⟩
def z4 : S100 := ⟨⟨0, 0⟩, [], false⟩
def z5 : S117 := ⟨0, 0⟩
def z6 : S147 := ⟨false, ⟨0, 0⟩⟩
noncomputable abbrev PP : Program := Tryz.prog
theorem D_len : ∀ n x, (D.enc n x).length = D.siz n
  | 0, x => rfl
  | 1, x => rfl
  | 2, x => rfl
  | 3, x => rfl
  | 4, x => rfl
  | 5, x => rfl
  | 6, x => rfl
  | n + 7, x => rfl
def plainC : C SS → Bool | .int _ _ | .bool _ | .str _ | .lst _ _ => true | _ => false
theorem plain_ok {c : C SS} (h : plainC c = true) (w : World) (F : Nat → Prop) (hh : Hp D) (β : Nat → Option Loc) (v : Value) : RC D w F hh β c v ↔ RP D w F c v := by
  cases c <;> first | exact Iff.rfl | (simp [plainC] at h)
theorem D_plain : ∀ n x, (D.enc n x).all plainC = true
  | 0, x => rfl
  | 1, x => rfl
  | 2, x => rfl
  | 3, x => rfl
  | 4, x => rfl
  | 5, x => rfl
  | 6, x => rfl
  | n + 7, x => rfl
theorem D_pure : ∀ n x c, c ∈ D.enc n x → ∀ w F h β v, RC D w F h β c v ↔ RP D w F c v := fun n x c hc w F h β v => plain_ok (List.all_eq_true.mp (D_plain n x) c hc) w F h β v
theorem decS_eq (t : Ty) (c : C D.S) : decS t c = decC D (.sl t) c := by cases c <;> rfl
theorem decS_le {t : Ty} {c : C D.S} {l : List (T D.S t)} (h : decS t c = some l) : Ceq c (.lst t l) := decC_eq (D := D) (t := .sl t) (by rw [← decS_eq]; exact h) (fun n e => by cases e) _ rfl
theorem CL0 : CQ (D := D) [] [] := CQ.rfl' _
theorem CL1 {c c' : C D.S} {l l' : List (C D.S)} (h : Ceq c c') (t : CQ l l') : CQ (c :: l) (c' :: l') := ⟨by simp [t.1], fun i x x' h1 h2 => by
  cases i with
  | zero => simp at h1 h2; subst h1; subst h2; exact h
  | succ i => simp at h1 h2; exact t.2 i x x' h1 h2⟩
theorem D_dec0 (cs : List (C SS)) (x : S60) (h : dec0 cs = some x) : CQ (D := D) cs (D.enc 0 x) := by
  unfold dec0 at h
  split at h
  · split at h
    · obtain rfl := Option.some.inj h; exact CL1 (Ceq.rfl' _) (CL1 (decS_le (by assumption)) (CL0))
    · cases h
  · cases h
theorem D_dec1 (cs : List (C SS)) (x : S24) (h : dec1 cs = some x) : CQ (D := D) cs (D.enc 1 x) := by
  unfold dec1 at h
  split at h
  · obtain rfl := Option.some.inj h; exact CQ.rfl' _
  · cases h
theorem D_dec2 (cs : List (C SS)) (x : S69) (h : dec2 cs = some x) : CQ (D := D) cs (D.enc 2 x) := by
  unfold dec2 at h
  split at h
  · split at h
    · obtain rfl := Option.some.inj h; exact CL1 (Ceq.rfl' _) (CL1 (decS_le (by assumption)) (CL0))
    · cases h
  · cases h
theorem D_dec3 (cs : List (C SS)) (x : S104) (h : dec3 cs = some x) : CQ (D := D) cs (D.enc 3 x) := by
  unfold dec3 at h
  split at h
  · obtain rfl := Option.some.inj h; exact CQ.rfl' _
  · cases h
theorem D_dec4 (cs : List (C SS)) (x : S100) (h : dec4 cs = some x) : CQ (D := D) cs (D.enc 4 x) := by
  unfold dec4 at h
  split at h
  · split at h
    · obtain rfl := Option.some.inj h; exact CL1 (Ceq.rfl' _) (CL1 (Ceq.rfl' _) (CL1 (decS_le (by assumption)) (CL1 (Ceq.rfl' _) (CL0))))
    · cases h
  · cases h
theorem D_dec5 (cs : List (C SS)) (x : S117) (h : dec5 cs = some x) : CQ (D := D) cs (D.enc 5 x) := by
  unfold dec5 at h
  split at h
  · obtain rfl := Option.some.inj h; exact CQ.rfl' _
  · cases h
theorem D_dec6 (cs : List (C SS)) (x : S147) (h : dec6 cs = some x) : CQ (D := D) cs (D.enc 6 x) := by
  unfold dec6 at h
  split at h
  · obtain rfl := Option.some.inj h; exact CQ.rfl' _
  · cases h
theorem D_dec : ∀ n cs x, D.dec n cs = some x → cs.length = D.siz n ∧ ∀ (j : Nat) c c', cs[j]? = some c → (D.enc n x)[j]? = some c' → Ceq c c'
  | 0, cs, x, h => ⟨(D_dec0 cs x h).1.trans (D_len 0 x), (D_dec0 cs x h).2⟩
  | 1, cs, x, h => ⟨(D_dec1 cs x h).1.trans (D_len 1 x), (D_dec1 cs x h).2⟩
  | 2, cs, x, h => ⟨(D_dec2 cs x h).1.trans (D_len 2 x), (D_dec2 cs x h).2⟩
  | 3, cs, x, h => ⟨(D_dec3 cs x h).1.trans (D_len 3 x), (D_dec3 cs x h).2⟩
  | 4, cs, x, h => ⟨(D_dec4 cs x h).1.trans (D_len 4 x), (D_dec4 cs x h).2⟩
  | 5, cs, x, h => ⟨(D_dec5 cs x h).1.trans (D_len 5 x), (D_dec5 cs x h).2⟩
  | 6, cs, x, h => ⟨(D_dec6 cs x h).1.trans (D_len 6 x), (D_dec6 cs x h).2⟩
  | n + 7, cs, x, h => by cases h
theorem ti_of {t : TypeId} {i : TI D.S} (hs : (PP.info? t).isSome = true) (h1 : ((PP.info? t).get hs).size = i.size) (h2 : ((PP.info? t).get hs).bytes = i.bytes) (hz : ((PP.info? t).get hs).zero.isSome = true)
    (h3 : (((PP.info? t).get hs).zero.get hz).cells.toList.map some = i.zero.map valOf) (h4 : i.agg = true → ((PP.info? t).get hs).zero.get hz = .agg (((PP.info? t).get hs).zero.get hz).cells) :
    ∃ j, PP.info? t = some j ∧ j.size = i.size ∧ j.bytes = i.bytes ∧ ∃ z, j.zero = some z ∧ z.cells.toList.map some = i.zero.map valOf ∧ (i.agg = true → z = .agg z.cells) :=
  ⟨_, (Option.some_get hs).symm, h1, h2, _, (Option.some_get hz).symm, h3, h4⟩
theorem fund_of {u : Option TypeDesc} {fl0 : Array Field} (h0 : u = some (.struct fl0)) (ha : (fl0.toList.all fun fd => (PP.underlying fd.type).isSome) = true) :
    ∀ fl (fd : Field) (f : Nat), u = some (.struct fl) → fl[f]? = some fd → (PP.underlying fd.type).isSome := fun fl fd f h hf => by
  obtain rfl := TypeDesc.struct.inj (Option.some.inj (h0.symm.trans h))
  exact List.all_eq_true.mp ha fd (by rw [Array.mem_toList_iff]; exact Array.mem_of_getElem? hf)
theorem aund_of {u : Option TypeDesc} {n0 : Nat} {e0 : TypeId} (h0 : u = some (.array n0 e0)) (ha : (PP.underlying e0).isSome = true) :
    ∀ n e, u = some (.array n e) → (PP.underlying e).isSome := fun n e h => by
  obtain ⟨h1, rfl⟩ := TypeDesc.array.inj (Option.some.inj (h0.symm.trans h))
  exact ha
theorem fund_no {u : Option TypeDesc} {d : TypeDesc} (h0 : u = some d) (hd : ∀ fl, d ≠ .struct fl) :
    ∀ fl (fd : Field) (f : Nat), u = some (.struct fl) → fl[f]? = some fd → (PP.underlying fd.type).isSome := fun fl fd f h hf => by
  exact absurd (Option.some.inj (h0.symm.trans h)) (hd fl)
theorem aund_no {u : Option TypeDesc} {d : TypeDesc} (h0 : u = some d) (hd : ∀ n e, d ≠ .array n e) :
    ∀ n e, u = some (.array n e) → (PP.underlying e).isSome := fun n e h => by
  exact absurd (Option.some.inj (h0.symm.trans h)) (hd n e)
def i2 : TI D.S := ⟨.int .i64, false, 1, 8, [.int .i64 0], some (.int .i64), []⟩
theorem t2 : TiOk D PP 2 i2 where
  info := ti_of (by kernel_rfl) (by kernel_rfl) (by kernel_rfl) (by kernel_rfl) (by kernel_rfl) (fun h => by cases h)
  desc := Tryz.underlying2
  agg := by kernel_rfl
  pos := by decide
  und := by kernel_rfl
  byt := by decide
  zlen := rfl
  eqk := .inl rfl
  ty := fun τ h => by cases h; exact ⟨rfl, rfl⟩
  fld := fun fs h => by cases h
  fund := fund_no Tryz.underlying2 (fun _ h => by cases h)
  aund := aund_no Tryz.underlying2 (fun _ _ h => by cases h)
def i3 : TI D.S := ⟨.int .i64, false, 1, 8, [.int .i64 0], some (.int .i64), []⟩
theorem t3 : TiOk D PP 3 i3 where
  info := ti_of (by kernel_rfl) (by kernel_rfl) (by kernel_rfl) (by kernel_rfl) (by kernel_rfl) (fun h => by cases h)
  desc := Tryz.underlying3
  agg := by kernel_rfl
  pos := by decide
  und := by kernel_rfl
  byt := by decide
  zlen := rfl
  eqk := .inl rfl
  ty := fun τ h => by cases h; exact ⟨rfl, rfl⟩
  fld := fun fs h => by cases h
  fund := fund_no Tryz.underlying3 (fun _ h => by cases h)
  aund := aund_no Tryz.underlying3 (fun _ _ h => by cases h)
def i4 : TI D.S := ⟨.bool, false, 1, 1, [.bool false], some (.bool), []⟩
theorem t4 : TiOk D PP 4 i4 where
  info := ti_of (by kernel_rfl) (by kernel_rfl) (by kernel_rfl) (by kernel_rfl) (by kernel_rfl) (fun h => by cases h)
  desc := Tryz.underlying4
  agg := by kernel_rfl
  pos := by decide
  und := by kernel_rfl
  byt := by decide
  zlen := rfl
  eqk := .inl rfl
  ty := fun τ h => by cases h; exact ⟨rfl, rfl⟩
  fld := fun fs h => by cases h
  fund := fund_no Tryz.underlying4 (fun _ h => by cases h)
  aund := aund_no Tryz.underlying4 (fun _ _ h => by cases h)
def i5 : TI D.S := ⟨.int .u8, false, 1, 1, [.int .u8 0], some (.int .u8), []⟩
theorem t5 : TiOk D PP 5 i5 where
  info := ti_of (by kernel_rfl) (by kernel_rfl) (by kernel_rfl) (by kernel_rfl) (by kernel_rfl) (fun h => by cases h)
  desc := Tryz.underlying5
  agg := by kernel_rfl
  pos := by decide
  und := by kernel_rfl
  byt := by decide
  zlen := rfl
  eqk := .inl rfl
  ty := fun τ h => by cases h; exact ⟨rfl, rfl⟩
  fld := fun fs h => by cases h
  fund := fund_no Tryz.underlying5 (fun _ h => by cases h)
  aund := aund_no Tryz.underlying5 (fun _ _ h => by cases h)
def i9 : TI D.S := ⟨.str, false, 1, 16, [.str ByteArray.empty], some (.str), []⟩
theorem t9 : TiOk D PP 9 i9 where
  info := ti_of (by kernel_rfl) (by kernel_rfl) (by kernel_rfl) (by kernel_rfl) (by kernel_rfl) (fun h => by cases h)
  desc := Tryz.underlying9
  agg := by kernel_rfl
  pos := by decide
  und := by kernel_rfl
  byt := by decide
  zlen := rfl
  eqk := .inl rfl
  ty := fun τ h => by cases h; exact ⟨rfl, rfl⟩
  fld := fun fs h => by cases h
  fund := fund_no Tryz.underlying9 (fun _ h => by cases h)
  aund := aund_no Tryz.underlying9 (fun _ _ h => by cases h)
def i22 : TI D.S := ⟨.slice 60, false, 1, 24, [.nils], some (.sl (.st 0)), []⟩
theorem t22 : TiOk D PP 22 i22 where
  info := ti_of (by kernel_rfl) (by kernel_rfl) (by kernel_rfl) (by kernel_rfl) (by kernel_rfl) (fun h => by cases h)
  desc := Tryz.underlying22
  agg := by kernel_rfl
  pos := by decide
  und := by kernel_rfl
  byt := by decide
  zlen := rfl
  eqk := .inl rfl
  ty := fun τ h => by cases h; exact ⟨rfl, rfl⟩
  fld := fun fs h => by cases h
  fund := fund_no Tryz.underlying22 (fun _ h => by cases h)
  aund := aund_no Tryz.underlying22 (fun _ _ h => by cases h)
def i24 : TI D.S := ⟨.struct [(0, 1, false), (1, 1, false)], true, 2, 16, [.int .i64 0, .int .i64 0], some (.st 1), [.int .i64, .int .i64]⟩
theorem t24 : TiOk D PP 24 i24 where
  info := ti_of (by kernel_rfl) (by kernel_rfl) (by kernel_rfl) (by kernel_rfl) (by kernel_rfl) (fun _ => by kernel_rfl)
  desc := ⟨_, Tryz.underlying24, by kernel_rfl⟩
  agg := by kernel_rfl
  pos := by decide
  und := by kernel_rfl
  byt := by decide
  zlen := rfl
  eqk := .inr ⟨20, by decide, by kernel_rfl, by kernel_rfl, by kernel_rfl⟩
  ty := fun τ h => by cases h; exact ⟨rfl, rfl⟩
  fld := fun fs h => by cases h; decide
  fund := fund_of Tryz.underlying24 (by kernel_rfl)
  aund := aund_no Tryz.underlying24 (fun _ _ h => by cases h)
def i27 : TI D.S := ⟨.slice 69, false, 1, 24, [.nils], some (.sl (.st 2)), []⟩
theorem t27 : TiOk D PP 27 i27 where
  info := ti_of (by kernel_rfl) (by kernel_rfl) (by kernel_rfl) (by kernel_rfl) (by kernel_rfl) (fun h => by cases h)
  desc := Tryz.underlying27
  agg := by kernel_rfl
  pos := by decide
  und := by kernel_rfl
  byt := by decide
  zlen := rfl
  eqk := .inl rfl
  ty := fun τ h => by cases h; exact ⟨rfl, rfl⟩
  fld := fun fs h => by cases h
  fund := fund_no Tryz.underlying27 (fun _ h => by cases h)
  aund := aund_no Tryz.underlying27 (fun _ _ h => by cases h)
def i29 : TI D.S := ⟨.slice 22, false, 1, 24, [.nils], some (.sl (.sl (.st 0))), []⟩
theorem t29 : TiOk D PP 29 i29 where
  info := ti_of (by kernel_rfl) (by kernel_rfl) (by kernel_rfl) (by kernel_rfl) (by kernel_rfl) (fun h => by cases h)
  desc := Tryz.underlying29
  agg := by kernel_rfl
  pos := by decide
  und := by kernel_rfl
  byt := by decide
  zlen := rfl
  eqk := .inl rfl
  ty := fun τ h => by cases h; exact ⟨rfl, rfl⟩
  fld := fun fs h => by cases h
  fund := fund_no Tryz.underlying29 (fun _ h => by cases h)
  aund := aund_no Tryz.underlying29 (fun _ _ h => by cases h)
def i30 : TI D.S := ⟨.int .i64, false, 1, 8, [.int .i64 0], some (.int .i64), []⟩
theorem t30 : TiOk D PP 30 i30 where
  info := ti_of (by kernel_rfl) (by kernel_rfl) (by kernel_rfl) (by kernel_rfl) (by kernel_rfl) (fun h => by cases h)
  desc := Tryz.underlying30
  agg := by kernel_rfl
  pos := by decide
  und := by kernel_rfl
  byt := by decide
  zlen := rfl
  eqk := .inl rfl
  ty := fun τ h => by cases h; exact ⟨rfl, rfl⟩
  fld := fun fs h => by cases h
  fund := fund_no Tryz.underlying30 (fun _ h => by cases h)
  aund := aund_no Tryz.underlying30 (fun _ _ h => by cases h)
def i33 : TI D.S := ⟨.slice 27, false, 1, 24, [.nils], some (.sl (.sl (.st 2))), []⟩
theorem t33 : TiOk D PP 33 i33 where
  info := ti_of (by kernel_rfl) (by kernel_rfl) (by kernel_rfl) (by kernel_rfl) (by kernel_rfl) (fun h => by cases h)
  desc := Tryz.underlying33
  agg := by kernel_rfl
  pos := by decide
  und := by kernel_rfl
  byt := by decide
  zlen := rfl
  eqk := .inl rfl
  ty := fun τ h => by cases h; exact ⟨rfl, rfl⟩
  fld := fun fs h => by cases h
  fund := fund_no Tryz.underlying33 (fun _ h => by cases h)
  aund := aund_no Tryz.underlying33 (fun _ _ h => by cases h)
def i58 : TI D.S := ⟨.slice 105, false, 1, 24, [.nils], some (.sl (.int .u32)), []⟩
theorem t58 : TiOk D PP 58 i58 where
  info := ti_of (by kernel_rfl) (by kernel_rfl) (by kernel_rfl) (by kernel_rfl) (by kernel_rfl) (fun h => by cases h)
  desc := Tryz.underlying58
  agg := by kernel_rfl
  pos := by decide
  und := by kernel_rfl
  byt := by decide
  zlen := rfl
  eqk := .inl rfl
  ty := fun τ h => by cases h; exact ⟨rfl, rfl⟩
  fld := fun fs h => by cases h
  fund := fund_no Tryz.underlying58 (fun _ h => by cases h)
  aund := aund_no Tryz.underlying58 (fun _ _ h => by cases h)
def i60 : TI D.S := ⟨.struct [(0, 1, false), (1, 1, false)], true, 2, 32, [.bool false, .nils], some (.st 0), []⟩
theorem t60 : TiOk D PP 60 i60 where
  info := ti_of (by kernel_rfl) (by kernel_rfl) (by kernel_rfl) (by kernel_rfl) (by kernel_rfl) (fun _ => by kernel_rfl)
  desc := ⟨_, Tryz.underlying60, by kernel_rfl⟩
  agg := by kernel_rfl
  pos := by decide
  und := by kernel_rfl
  byt := by decide
  zlen := rfl
  eqk := .inl rfl
  ty := fun τ h => by cases h; exact ⟨rfl, rfl⟩
  fld := fun fs h => by cases h; decide
  fund := fund_of Tryz.underlying60 (by kernel_rfl)
  aund := aund_no Tryz.underlying60 (fun _ _ h => by cases h)
def i64 : TI D.S := ⟨.slice 104, false, 1, 24, [.nils], some (.sl (.st 3)), []⟩
theorem t64 : TiOk D PP 64 i64 where
  info := ti_of (by kernel_rfl) (by kernel_rfl) (by kernel_rfl) (by kernel_rfl) (by kernel_rfl) (fun h => by cases h)
  desc := Tryz.underlying64
  agg := by kernel_rfl
  pos := by decide
  und := by kernel_rfl
  byt := by decide
  zlen := rfl
  eqk := .inl rfl
  ty := fun τ h => by cases h; exact ⟨rfl, rfl⟩
  fld := fun fs h => by cases h
  fund := fund_no Tryz.underlying64 (fun _ h => by cases h)
  aund := aund_no Tryz.underlying64 (fun _ _ h => by cases h)
def i67 : TI D.S := ⟨.slice 88, false, 1, 24, [.nils], some (.sl (.int .u64)), []⟩
theorem t67 : TiOk D PP 67 i67 where
  info := ti_of (by kernel_rfl) (by kernel_rfl) (by kernel_rfl) (by kernel_rfl) (by kernel_rfl) (fun h => by cases h)
  desc := Tryz.underlying67
  agg := by kernel_rfl
  pos := by decide
  und := by kernel_rfl
  byt := by decide
  zlen := rfl
  eqk := .inl rfl
  ty := fun τ h => by cases h; exact ⟨rfl, rfl⟩
  fld := fun fs h => by cases h
  fund := fund_no Tryz.underlying67 (fun _ h => by cases h)
  aund := aund_no Tryz.underlying67 (fun _ _ h => by cases h)
def i69 : TI D.S := ⟨.struct [(0, 1, false), (1, 1, false)], true, 2, 32, [.bool false, .nils], some (.st 2), []⟩
theorem t69 : TiOk D PP 69 i69 where
  info := ti_of (by kernel_rfl) (by kernel_rfl) (by kernel_rfl) (by kernel_rfl) (by kernel_rfl) (fun _ => by kernel_rfl)
  desc := ⟨_, Tryz.underlying69, by kernel_rfl⟩
  agg := by kernel_rfl
  pos := by decide
  und := by kernel_rfl
  byt := by decide
  zlen := rfl
  eqk := .inl rfl
  ty := fun τ h => by cases h; exact ⟨rfl, rfl⟩
  fld := fun fs h => by cases h; decide
  fund := fund_of Tryz.underlying69 (by kernel_rfl)
  aund := aund_no Tryz.underlying69 (fun _ _ h => by cases h)
def i86 : TI D.S := ⟨.slice 2, false, 1, 24, [.nils], some (.sl (.int .i64)), []⟩
theorem t86 : TiOk D PP 86 i86 where
  info := ti_of (by kernel_rfl) (by kernel_rfl) (by kernel_rfl) (by kernel_rfl) (by kernel_rfl) (fun h => by cases h)
  desc := Tryz.underlying86
  agg := by kernel_rfl
  pos := by decide
  und := by kernel_rfl
  byt := by decide
  zlen := rfl
  eqk := .inl rfl
  ty := fun τ h => by cases h; exact ⟨rfl, rfl⟩
  fld := fun fs h => by cases h
  fund := fund_no Tryz.underlying86 (fun _ h => by cases h)
  aund := aund_no Tryz.underlying86 (fun _ _ h => by cases h)
def i88 : TI D.S := ⟨.int .u64, false, 1, 8, [.int .u64 0], some (.int .u64), []⟩
theorem t88 : TiOk D PP 88 i88 where
  info := ti_of (by kernel_rfl) (by kernel_rfl) (by kernel_rfl) (by kernel_rfl) (by kernel_rfl) (fun h => by cases h)
  desc := Tryz.underlying88
  agg := by kernel_rfl
  pos := by decide
  und := by kernel_rfl
  byt := by decide
  zlen := rfl
  eqk := .inl rfl
  ty := fun τ h => by cases h; exact ⟨rfl, rfl⟩
  fld := fun fs h => by cases h
  fund := fund_no Tryz.underlying88 (fun _ h => by cases h)
  aund := aund_no Tryz.underlying88 (fun _ _ h => by cases h)
def i93 : TI D.S := ⟨.func, false, 1, 8, [.nilf], none, []⟩
theorem t93 : TiOk D PP 93 i93 where
  info := ti_of (by kernel_rfl) (by kernel_rfl) (by kernel_rfl) (by kernel_rfl) (by kernel_rfl) (fun h => by cases h)
  desc := ⟨_, _, _, Tryz.underlying93⟩
  agg := by kernel_rfl
  pos := by decide
  und := by kernel_rfl
  byt := by decide
  zlen := rfl
  eqk := .inl rfl
  ty := fun τ h => by cases h
  fld := fun fs h => by cases h
  fund := fund_no Tryz.underlying93 (fun _ h => by cases h)
  aund := aund_no Tryz.underlying93 (fun _ _ h => by cases h)
def i98 : TI D.S := ⟨.ptr 100, false, 1, 8, [.nilp], none, []⟩
theorem t98 : TiOk D PP 98 i98 where
  info := ti_of (by kernel_rfl) (by kernel_rfl) (by kernel_rfl) (by kernel_rfl) (by kernel_rfl) (fun h => by cases h)
  desc := Tryz.underlying98
  agg := by kernel_rfl
  pos := by decide
  und := by kernel_rfl
  byt := by decide
  zlen := rfl
  eqk := .inl rfl
  ty := fun τ h => by cases h
  fld := fun fs h => by cases h
  fund := fund_no Tryz.underlying98 (fun _ h => by cases h)
  aund := aund_no Tryz.underlying98 (fun _ _ h => by cases h)
def i100 : TI D.S := ⟨.struct [(0, 2, true), (2, 1, false), (3, 1, false)], true, 4, 48, [.int .i64 0, .int .i64 0, .nils, .bool false], some (.st 4), []⟩
theorem t100 : TiOk D PP 100 i100 where
  info := ti_of (by kernel_rfl) (by kernel_rfl) (by kernel_rfl) (by kernel_rfl) (by kernel_rfl) (fun _ => by kernel_rfl)
  desc := ⟨_, Tryz.underlying100, by kernel_rfl⟩
  agg := by kernel_rfl
  pos := by decide
  und := by kernel_rfl
  byt := by decide
  zlen := rfl
  eqk := .inl rfl
  ty := fun τ h => by cases h; exact ⟨rfl, rfl⟩
  fld := fun fs h => by cases h; decide
  fund := fund_of Tryz.underlying100 (by kernel_rfl)
  aund := aund_no Tryz.underlying100 (fun _ _ h => by cases h)
def i104 : TI D.S := ⟨.struct [(0, 2, true), (2, 2, true)], true, 4, 32, [.int .i64 0, .int .i64 0, .int .i64 0, .int .i64 0], some (.st 3), [.int .i64, .int .i64, .int .i64, .int .i64]⟩
theorem t104 : TiOk D PP 104 i104 where
  info := ti_of (by kernel_rfl) (by kernel_rfl) (by kernel_rfl) (by kernel_rfl) (by kernel_rfl) (fun _ => by kernel_rfl)
  desc := ⟨_, Tryz.underlying104, by kernel_rfl⟩
  agg := by kernel_rfl
  pos := by decide
  und := by kernel_rfl
  byt := by decide
  zlen := rfl
  eqk := .inr ⟨20, by decide, by kernel_rfl, by kernel_rfl, by kernel_rfl⟩
  ty := fun τ h => by cases h; exact ⟨rfl, rfl⟩
  fld := fun fs h => by cases h; decide
  fund := fund_of Tryz.underlying104 (by kernel_rfl)
  aund := aund_no Tryz.underlying104 (fun _ _ h => by cases h)
def i105 : TI D.S := ⟨.int .u32, false, 1, 4, [.int .u32 0], some (.int .u32), []⟩
theorem t105 : TiOk D PP 105 i105 where
  info := ti_of (by kernel_rfl) (by kernel_rfl) (by kernel_rfl) (by kernel_rfl) (by kernel_rfl) (fun h => by cases h)
  desc := Tryz.underlying105
  agg := by kernel_rfl
  pos := by decide
  und := by kernel_rfl
  byt := by decide
  zlen := rfl
  eqk := .inl rfl
  ty := fun τ h => by cases h; exact ⟨rfl, rfl⟩
  fld := fun fs h => by cases h
  fund := fund_no Tryz.underlying105 (fun _ h => by cases h)
  aund := aund_no Tryz.underlying105 (fun _ _ h => by cases h)
def i117 : TI D.S := ⟨.struct [(0, 1, false), (1, 1, false)], true, 2, 16, [.int .u64 0, .int .u64 0], some (.st 5), [.int .u64, .int .u64]⟩
theorem t117 : TiOk D PP 117 i117 where
  info := ti_of (by kernel_rfl) (by kernel_rfl) (by kernel_rfl) (by kernel_rfl) (by kernel_rfl) (fun _ => by kernel_rfl)
  desc := ⟨_, Tryz.underlying117, by kernel_rfl⟩
  agg := by kernel_rfl
  pos := by decide
  und := by kernel_rfl
  byt := by decide
  zlen := rfl
  eqk := .inr ⟨20, by decide, by kernel_rfl, by kernel_rfl, by kernel_rfl⟩
  ty := fun τ h => by cases h; exact ⟨rfl, rfl⟩
  fld := fun fs h => by cases h; decide
  fund := fund_of Tryz.underlying117 (by kernel_rfl)
  aund := aund_no Tryz.underlying117 (fun _ _ h => by cases h)
def i132 : TI D.S := ⟨.int .u64, false, 1, 8, [.int .u64 0], some (.int .u64), []⟩
theorem t132 : TiOk D PP 132 i132 where
  info := ti_of (by kernel_rfl) (by kernel_rfl) (by kernel_rfl) (by kernel_rfl) (by kernel_rfl) (fun h => by cases h)
  desc := Tryz.underlying132
  agg := by kernel_rfl
  pos := by decide
  und := by kernel_rfl
  byt := by decide
  zlen := rfl
  eqk := .inl rfl
  ty := fun τ h => by cases h; exact ⟨rfl, rfl⟩
  fld := fun fs h => by cases h
  fund := fund_no Tryz.underlying132 (fun _ h => by cases h)
  aund := aund_no Tryz.underlying132 (fun _ _ h => by cases h)
def i147 : TI D.S := ⟨.struct [(0, 1, false), (1, 2, true)], true, 3, 24, [.bool false, .int .u64 0, .int .u64 0], some (.st 6), [.bool, .int .u64, .int .u64]⟩
theorem t147 : TiOk D PP 147 i147 where
  info := ti_of (by kernel_rfl) (by kernel_rfl) (by kernel_rfl) (by kernel_rfl) (by kernel_rfl) (fun _ => by kernel_rfl)
  desc := ⟨_, Tryz.underlying147, by kernel_rfl⟩
  agg := by kernel_rfl
  pos := by decide
  und := by kernel_rfl
  byt := by decide
  zlen := rfl
  eqk := .inr ⟨20, by decide, by kernel_rfl, by kernel_rfl, by kernel_rfl⟩
  ty := fun τ h => by cases h; exact ⟨rfl, rfl⟩
  fld := fun fs h => by cases h; decide
  fund := fund_of Tryz.underlying147 (by kernel_rfl)
  aund := aund_no Tryz.underlying147 (fun _ _ h => by cases h)
def i171 : TI D.S := ⟨.array 64 1 false, true, 64, 64, [.int .u8 0, .int .u8 0, .int .u8 0, .int .u8 0, .int .u8 0, .int .u8 0, .int .u8 0, .int .u8 0, .int .u8 0, .int .u8 0, .int .u8 0, .int .u8 0, .int .u8 0, .int .u8 0, .int .u8 0, .int .u8 0, .int .u8 0, .int .u8 0, .int .u8 0, .int .u8 0, .int .u8 0, .int .u8 0, .int .u8 0, .int .u8 0, .int .u8 0, .int .u8 0, .int .u8 0, .int .u8 0, .int .u8 0, .int .u8 0, .int .u8 0, .int .u8 0, .int .u8 0, .int .u8 0, .int .u8 0, .int .u8 0, .int .u8 0, .int .u8 0, .int .u8 0, .int .u8 0, .int .u8 0, .int .u8 0, .int .u8 0, .int .u8 0, .int .u8 0, .int .u8 0, .int .u8 0, .int .u8 0, .int .u8 0, .int .u8 0, .int .u8 0, .int .u8 0, .int .u8 0, .int .u8 0, .int .u8 0, .int .u8 0, .int .u8 0, .int .u8 0, .int .u8 0, .int .u8 0, .int .u8 0, .int .u8 0, .int .u8 0, .int .u8 0], none, []⟩
theorem t171 : TiOk D PP 171 i171 where
  info := ti_of (by kernel_rfl) (by kernel_rfl) (by kernel_rfl) (by kernel_rfl) (by kernel_rfl) (fun _ => by kernel_rfl)
  desc := ⟨_, Tryz.underlying171, by kernel_rfl, by kernel_rfl, by kernel_rfl, by decide⟩
  agg := by kernel_rfl
  pos := by decide
  und := by kernel_rfl
  byt := by decide
  zlen := rfl
  eqk := .inl rfl
  ty := fun τ h => by cases h
  fld := fun fs h => by cases h
  fund := fund_no Tryz.underlying171 (fun _ h => by cases h)
  aund := aund_of Tryz.underlying171 (by kernel_rfl)
def i172 : TI D.S := ⟨.slice 3, false, 1, 24, [.nils], some (.sl (.int .i64)), []⟩
theorem t172 : TiOk D PP 172 i172 where
  info := ti_of (by kernel_rfl) (by kernel_rfl) (by kernel_rfl) (by kernel_rfl) (by kernel_rfl) (fun h => by cases h)
  desc := Tryz.underlying172
  agg := by kernel_rfl
  pos := by decide
  und := by kernel_rfl
  byt := by decide
  zlen := rfl
  eqk := .inl rfl
  ty := fun τ h => by cases h; exact ⟨rfl, rfl⟩
  fld := fun fs h => by cases h
  fund := fund_no Tryz.underlying172 (fun _ h => by cases h)
  aund := aund_no Tryz.underlying172 (fun _ _ h => by cases h)
def i177 : TI D.S := ⟨.iface, false, 1, 16, [.nili], none, []⟩
theorem t177 : TiOk D PP 177 i177 where
  info := ti_of (by kernel_rfl) (by kernel_rfl) (by kernel_rfl) (by kernel_rfl) (by kernel_rfl) (fun h => by cases h)
  desc := ⟨_, Tryz.underlying177⟩
  agg := by kernel_rfl
  pos := by decide
  und := by kernel_rfl
  byt := by decide
  zlen := rfl
  eqk := .inl rfl
  ty := fun τ h => by cases h
  fld := fun fs h => by cases h
  fund := fund_no Tryz.underlying177 (fun _ h => by cases h)
  aund := aund_no Tryz.underlying177 (fun _ _ h => by cases h)
theorem D_ti : ∀ t i, (t, i) ∈ D.ti → TiOk D PP t i := fun t i h => by
  have h : (t, i) ∈ [(2, i2), (3, i3), (4, i4), (5, i5), (9, i9), (22, i22), (24, i24), (27, i27), (29, i29), (30, i30), (33, i33), (58, i58), (60, i60), (64, i64), (67, i67), (69, i69), (86, i86), (88, i88), (93, i93), (98, i98), (100, i100), (104, i104), (105, i105), (117, i117), (132, i132), (147, i147), (171, i171), (172, i172), (177, i177)] := h
  simp only [List.mem_cons, List.not_mem_nil, or_false, Prod.mk.injEq] at h
  rcases h with ⟨rfl, rfl⟩ | ⟨rfl, rfl⟩ | ⟨rfl, rfl⟩ | ⟨rfl, rfl⟩ | ⟨rfl, rfl⟩ | ⟨rfl, rfl⟩ | ⟨rfl, rfl⟩ | ⟨rfl, rfl⟩ | ⟨rfl, rfl⟩ | ⟨rfl, rfl⟩ | ⟨rfl, rfl⟩ | ⟨rfl, rfl⟩ | ⟨rfl, rfl⟩ | ⟨rfl, rfl⟩ | ⟨rfl, rfl⟩ | ⟨rfl, rfl⟩ | ⟨rfl, rfl⟩ | ⟨rfl, rfl⟩ | ⟨rfl, rfl⟩ | ⟨rfl, rfl⟩ | ⟨rfl, rfl⟩ | ⟨rfl, rfl⟩ | ⟨rfl, rfl⟩ | ⟨rfl, rfl⟩ | ⟨rfl, rfl⟩ | ⟨rfl, rfl⟩ | ⟨rfl, rfl⟩ | ⟨rfl, rfl⟩ | ⟨rfl, rfl⟩
  · exact t2
  · exact t3
  · exact t4
  · exact t5
  · exact t9
  · exact t22
  · exact t24
  · exact t27
  · exact t29
  · exact t30
  · exact t33
  · exact t58
  · exact t60
  · exact t64
  · exact t67
  · exact t69
  · exact t86
  · exact t88
  · exact t93
  · exact t98
  · exact t100
  · exact t104
  · exact t105
  · exact t117
  · exact t132
  · exact t147
  · exact t171
  · exact t172
  · exact t177
theorem lw : Lawful D PP where
  len := D_len
  dec := D_dec
  pure := D_pure
  ti := D_ti
  mixed := by kernel_rfl
end Go.Proofs.YtidiifdiilahdaaGreatDoor.Ev
