/- Printed by a program of this claim: the seat's types, as they are told by value; that the table says what the program says. -/
import Derived.Test.YtidiifdiilahdaaDoorProg
import Derived.Test.YtidiifdiilahdaaDoorEvAd
import Derived.KernelRfl
import Derived.Lib.TrailingZeros
namespace Go.Proofs.YtidiifdiilahdaaDoor.Ev
open Go
set_option linter.unusedVariables false
structure S31 where
  mk ::
  f0 : Bool
  f1 : List (Int)
structure S24 where
  mk ::
  f0 : Int
  f1 : Int
structure S42 where
  mk ::
  f0 : Bool
  f1 : List (Int)
structure S81 where
  mk ::
  f0 : Int
  f1 : Int
structure Ih where
  T : Type
  d : T
def tabT (n : Nat) : Ih := match n with
  | 0 => ⟨S31, ⟨false, []⟩⟩
  | 1 => ⟨S24, ⟨0, 0⟩⟩
  | 2 => ⟨S42, ⟨false, []⟩⟩
  | 3 => ⟨S81, ⟨0, 0⟩⟩
  | _ => ⟨Unit, ()⟩
def SS (n : Nat) : Type := (tabT n).T
def decS (t : Ty) (c : C SS) : Option (List (T SS t)) := match c with
  | .lst t' l => match Ty.eq? t' t with | some ⟨h⟩ => some (h ▸ l) | none => none
  | .nils => some []
  | .emp => some []
  | _ => none
def dec0 (l : List (C SS)) : Option S31 := match l with | [.bool a0, a1] => (match decS (.int .u32) a1 with | some ba1 => some (⟨a0, ba1⟩ : S31) | none => none) | _ => none
def dec1 (l : List (C SS)) : Option S24 := match l with | [.int .i64 a0, .int .i64 a1] => some (⟨a0, a1⟩ : S24) | _ => none
def dec2 (l : List (C SS)) : Option S42 := match l with | [.bool a0, a1] => (match decS (.int .u64) a1 with | some ba1 => some (⟨a0, ba1⟩ : S42) | none => none) | _ => none
def dec3 (l : List (C SS)) : Option S81 := match l with | [.int .u64 a0, .int .u64 a1] => some (⟨a0, a1⟩ : S81) | _ => none
def D : Tys where
  S := SS
  enc := fun n => match n with
    | 0 => fun (x : S31) => [.bool x.f0, .lst (.int .u32) x.f1]
    | 1 => fun (x : S24) => [.int .i64 x.f0, .int .i64 x.f1]
    | 2 => fun (x : S42) => [.bool x.f0, .lst (.int .u64) x.f1]
    | 3 => fun (x : S81) => [.int .u64 x.f0, .int .u64 x.f1]
    | _ => fun _ => []
  dec := fun n => match n with
    | 0 => dec0
    | 1 => dec1
    | 2 => dec2
    | 3 => dec3
    | _ => fun _ => none
  dfl := fun n => (tabT n).d
  siz := fun n => match n with | 0 => 2 | 1 => 2 | 2 => 2 | 3 => 2 | _ => 0
  ti := [(2, ⟨.int .i64, false, 1, 8, [.int .i64 0], some (.int .i64), []⟩),
    (3, ⟨.int .i64, false, 1, 8, [.int .i64 0], some (.int .i64), []⟩),
    (4, ⟨.bool, false, 1, 1, [.bool false], some (.bool), []⟩),
    (5, ⟨.int .u8, false, 1, 1, [.int .u8 0], some (.int .u8), []⟩),
    (9, ⟨.str, false, 1, 16, [.str ByteArray.empty], some (.str), []⟩),
    (22, ⟨.slice 31, false, 1, 24, [.nils], some (.sl (.st 0)), []⟩),
    (24, ⟨.struct [(0, 1, false), (1, 1, false)], true, 2, 16, [.int .i64 0, .int .i64 0], some (.st 1), [.int .i64, .int .i64]⟩),
    (27, ⟨.slice 42, false, 1, 24, [.nils], some (.sl (.st 2)), []⟩),
    (29, ⟨.slice 60, false, 1, 24, [.nils], some (.sl (.int .u32)), []⟩),
    (31, ⟨.struct [(0, 1, false), (1, 1, false)], true, 2, 32, [.bool false, .nils], some (.st 0), []⟩),
    (32, ⟨.int .i64, false, 1, 8, [.int .i64 0], some (.int .i64), []⟩),
    (40, ⟨.slice 65, false, 1, 24, [.nils], some (.sl (.int .u64)), []⟩),
    (42, ⟨.struct [(0, 1, false), (1, 1, false)], true, 2, 32, [.bool false, .nils], some (.st 2), []⟩),
    (52, ⟨.slice 2, false, 1, 24, [.nils], some (.sl (.int .i64)), []⟩),
    (60, ⟨.int .u32, false, 1, 4, [.int .u32 0], some (.int .u32), []⟩),
    (65, ⟨.int .u64, false, 1, 8, [.int .u64 0], some (.int .u64), []⟩),
    (73, ⟨.func, false, 1, 8, [.nilf], none, []⟩),
    (81, ⟨.struct [(0, 1, false), (1, 1, false)], true, 2, 16, [.int .u64 0, .int .u64 0], some (.st 3), [.int .u64, .int .u64]⟩),
    (93, ⟨.int .u64, false, 1, 8, [.int .u64 0], some (.int .u64), []⟩),
    (112, ⟨.iface, false, 1, 16, [.nili], none, []⟩),
    (115, ⟨.array 64 1 false, true, 64, 64, [.int .u8 0, .int .u8 0, .int .u8 0, .int .u8 0, .int .u8 0, .int .u8 0, .int .u8 0, .int .u8 0, .int .u8 0, .int .u8 0, .int .u8 0, .int .u8 0, .int .u8 0, .int .u8 0, .int .u8 0, .int .u8 0, .int .u8 0, .int .u8 0, .int .u8 0, .int .u8 0, .int .u8 0, .int .u8 0, .int .u8 0, .int .u8 0, .int .u8 0, .int .u8 0, .int .u8 0, .int .u8 0, .int .u8 0, .int .u8 0, .int .u8 0, .int .u8 0, .int .u8 0, .int .u8 0, .int .u8 0, .int .u8 0, .int .u8 0, .int .u8 0, .int .u8 0, .int .u8 0, .int .u8 0, .int .u8 0, .int .u8 0, .int .u8 0, .int .u8 0, .int .u8 0, .int .u8 0, .int .u8 0, .int .u8 0, .int .u8 0, .int .u8 0, .int .u8 0, .int .u8 0, .int .u8 0, .int .u8 0, .int .u8 0, .int .u8 0, .int .u8 0, .int .u8 0, .int .u8 0, .int .u8 0, .int .u8 0, .int .u8 0, .int .u8 0], none, []⟩),
    (116, ⟨.slice 3, false, 1, 24, [.nils], some (.sl (.int .i64)), []⟩)]
  mode := [(61, ⟨[.val], true, none⟩), (69, ⟨[.val, .val], true, none⟩), (53, ⟨[.val], true, none⟩), (35, ⟨[.val], false, none⟩), (44, ⟨[.val], true, none⟩), (20, ⟨[.val], true, none⟩), (49, ⟨[.val, .val], true, none⟩), (81, ⟨[.val, .val], false, none⟩), (71, ⟨[.val, .val], true, none⟩), (92, ⟨[.val], false, none⟩), (82, ⟨[.val, .val], false, none⟩), (93, ⟨[.val], false, none⟩), (83, ⟨[.val, .val], false, none⟩), (72, ⟨[.val, .val], false, none⟩), (73, ⟨[.val, .val], true, none⟩), (54, ⟨[.val, .val], true, none⟩), (55, ⟨[.val, .val, .val], true, none⟩), (24, ⟨[.val, .val], true, none⟩), (70, ⟨[.val], true, some ⟨[.val], [(0, none)]⟩⟩), (45, ⟨[.val], true, none⟩), (48, ⟨[.val], true, none⟩), (47, ⟨[.val, .val], true, none⟩), (46, ⟨[.val, .val], true, none⟩), (18, ⟨[.val, .val], true, none⟩), (60, ⟨[.val], false, none⟩), (59, ⟨[.val], false, none⟩), (84, ⟨[.val], false, none⟩), (75, ⟨[.val], false, none⟩), (85, ⟨[.val, .val], false, none⟩), (94, ⟨[.val], false, none⟩), (86, ⟨[.val], false, none⟩), (87, ⟨[.val, .val], false, none⟩), (76, ⟨[.val, .val], false, none⟩), (95, ⟨[.val], false, none⟩), (89, ⟨[.val, .val], false, none⟩), (88, ⟨[.val], false, none⟩), (77, ⟨[.val, .val], false, none⟩), (90, ⟨[.val, .val, .val], false, none⟩), (78, ⟨[.val, .val], false, none⟩), (58, ⟨[.val, .val], false, none⟩), (33, ⟨[.val], false, none⟩), (34, ⟨[.val, .val], true, none⟩), (80, ⟨[.val], false, none⟩), (91, ⟨[.val], false, none⟩), (79, ⟨[.val, .val, .val], false, none⟩), (62, ⟨[.val, .val], true, none⟩), (36, ⟨[.val, .val], true, none⟩), (11, ⟨[.val, .val], true, none⟩), (10, ⟨[.val, .val], true, none⟩), (21, ⟨[.val], false, none⟩), (7, ⟨[], false, none⟩), (8, ⟨[.val], false, none⟩), (74, ⟨[.val], true, none⟩), (57, ⟨[.val, .val], true, none⟩), (31, ⟨[.val], true, none⟩), (42, ⟨[.val], false, none⟩), (32, ⟨[.val], true, none⟩), (9, ⟨[.val], true, none⟩), (64, ⟨[.val], false, none⟩), (63, ⟨[.val, .val], false, none⟩), (37, ⟨[.val], false, none⟩), (12, ⟨[.val], false, none⟩), (39, ⟨[.val], true, none⟩), (38, ⟨[.val, .val], false, none⟩), (41, ⟨[.val, .val], true, none⟩), (65, ⟨[.val, .val], true, none⟩), (66, ⟨[.val, .val], false, none⟩), (67, ⟨[.val, .val], true, none⟩), (40, ⟨[.val, .val], true, none⟩), (15, ⟨[.val, .val], true, none⟩), (14, ⟨[.val], true, none⟩), (13, ⟨[.val, .val], false, none⟩), (51, ⟨[.val], true, none⟩), (52, ⟨[.val, .val], true, none⟩), (68, ⟨[.val, .val], false, none⟩), (43, ⟨[.val, .val], true, none⟩), (16, ⟨[.val, .val], true, none⟩), (17, ⟨[.val, .val], false, none⟩), (3, ⟨[.val, .val], false, none⟩), (50, ⟨[.val, .val], true, none⟩), (19, ⟨[.val, .val], true, none⟩), (4, ⟨[.val, .val], false, none⟩), (22, ⟨[.val], true, none⟩), (23, ⟨[.val, .val], true, none⟩), (5, ⟨[.val, .val], false, none⟩), (25, ⟨[.val, .val], true, none⟩), (26, ⟨[.val, .val], true, none⟩), (56, ⟨[.val], true, none⟩), (27, ⟨[.val, .val], true, none⟩), (28, ⟨[.val, .val], true, none⟩), (29, ⟨[.val], true, none⟩), (30, ⟨[.val], true, none⟩), (6, ⟨[.val, .val], false, none⟩)]
  gl := [(2, Lib.deBruijn64tab.map fun (n : Nat) => Value.int .u8 (n : Int))]
def grd {R : Type} (b : Bool) (k : Option R) : Option R := cond b k none
abbrev wr (k : IntKind) (n : Int) : Int := k.wrap n
def z0 : S31 := ⟨false, []⟩
def z1 : S24 := ⟨0, 0⟩
def z2 : S42 := ⟨false, []⟩
def z3 : S81 := ⟨0, 0⟩
noncomputable abbrev PP : Program := Tryd.prog
theorem D_len : ∀ n x, (D.enc n x).length = D.siz n
  | 0, x => rfl
  | 1, x => rfl
  | 2, x => rfl
  | 3, x => rfl
  | n + 4, x => rfl
def plainC : C SS → Bool | .int _ _ | .bool _ | .str _ | .lst _ _ => true | _ => false
theorem plain_ok {c : C SS} (h : plainC c = true) (w : World) (F : Nat → Prop) (hh : Hp D) (β : Nat → Option Loc) (v : Value) : RC D w F hh β c v ↔ RP D w F c v := by
  cases c <;> first | exact Iff.rfl | (simp [plainC] at h)
theorem D_plain : ∀ n x, (D.enc n x).all plainC = true
  | 0, x => rfl
  | 1, x => rfl
  | 2, x => rfl
  | 3, x => rfl
  | n + 4, x => rfl
theorem D_pure : ∀ n x c, c ∈ D.enc n x → ∀ w F h β v, RC D w F h β c v ↔ RP D w F c v := fun n x c hc w F h β v => plain_ok (List.all_eq_true.mp (D_plain n x) c hc) w F h β v
theorem decS_eq (t : Ty) (c : C D.S) : decS t c = decC D (.sl t) c := by cases c <;> rfl
theorem decS_le {t : Ty} {c : C D.S} {l : List (T D.S t)} (h : decS t c = some l) : Ceq c (.lst t l) := decC_eq (D := D) (t := .sl t) (by rw [← decS_eq]; exact h) (fun n e => by cases e) _ rfl
theorem CL0 : CQ (D := D) [] [] := CQ.rfl' _
theorem CL1 {c c' : C D.S} {l l' : List (C D.S)} (h : Ceq c c') (t : CQ l l') : CQ (c :: l) (c' :: l') := ⟨by simp [t.1], fun i x x' h1 h2 => by
  cases i with
  | zero => simp at h1 h2; subst h1; subst h2; exact h
  | succ i => simp at h1 h2; exact t.2 i x x' h1 h2⟩
theorem D_dec0 (cs : List (C SS)) (x : S31) (h : dec0 cs = some x) : CQ (D := D) cs (D.enc 0 x) := by
  unfold dec0 at h
  split at h
  · split at h
    · obtain rfl := Option.some.inj h; exact CL1 (Ceq.rfl' _) (CL1 (decS_le (by assumption)) (CL0))
    · cases h
  · cases h
theorem D_dec1 (cs : List (C SS)) (x : S24) (h : dec1 cs = some x) : CQ (D := D) cs (D.enc 1 x) := by
  unfold dec1 at h
  split at h
  · obtain rfl := Option.some.inj h; exact CQ.rfl' _
  · cases h
theorem D_dec2 (cs : List (C SS)) (x : S42) (h : dec2 cs = some x) : CQ (D := D) cs (D.enc 2 x) := by
  unfold dec2 at h
  split at h
  · split at h
    · obtain rfl := Option.some.inj h; exact CL1 (Ceq.rfl' _) (CL1 (decS_le (by assumption)) (CL0))
    · cases h
  · cases h
theorem D_dec3 (cs : List (C SS)) (x : S81) (h : dec3 cs = some x) : CQ (D := D) cs (D.enc 3 x) := by
  unfold dec3 at h
  split at h
  · obtain rfl := Option.some.inj h; exact CQ.rfl' _
  · cases h
theorem D_dec : ∀ n cs x, D.dec n cs = some x → cs.length = D.siz n ∧ ∀ (j : Nat) c c', cs[j]? = some c → (D.enc n x)[j]? = some c' → Ceq c c'
  | 0, cs, x, h => ⟨(D_dec0 cs x h).1.trans (D_len 0 x), (D_dec0 cs x h).2⟩
  | 1, cs, x, h => ⟨(D_dec1 cs x h).1.trans (D_len 1 x), (D_dec1 cs x h).2⟩
  | 2, cs, x, h => ⟨(D_dec2 cs x h).1.trans (D_len 2 x), (D_dec2 cs x h).2⟩
  | 3, cs, x, h => ⟨(D_dec3 cs x h).1.trans (D_len 3 x), (D_dec3 cs x h).2⟩
  | n + 4, cs, x, h => by cases h
theorem ti_of {t : TypeId} {i : TI D.S} (hs : (PP.info? t).isSome = true) (h1 : ((PP.info? t).get hs).size = i.size) (h2 : ((PP.info? t).get hs).bytes = i.bytes) (hz : ((PP.info? t).get hs).zero.isSome = true)
    (h3 : (((PP.info? t).get hs).zero.get hz).cells.toList.map some = i.zero.map valOf) (h4 : i.agg = true → ((PP.info? t).get hs).zero.get hz = .agg (((PP.info? t).get hs).zero.get hz).cells) :
    ∃ j, PP.info? t = some j ∧ j.size = i.size ∧ j.bytes = i.bytes ∧ ∃ z, j.zero = some z ∧ z.cells.toList.map some = i.zero.map valOf ∧ (i.agg = true → z = .agg z.cells) :=
  ⟨_, (Option.some_get hs).symm, h1, h2, _, (Option.some_get hz).symm, h3, h4⟩
theorem fund_of {u : Option TypeDesc} {fl0 : Array Field} (h0 : u = some (.struct fl0)) (ha : (fl0.toList.all fun fd => (PP.underlying fd.type).isSome) = true) :
    ∀ fl (fd : Field) (f : Nat), u = some (.struct fl) → fl[f]? = some fd → (PP.underlying fd.type).isSome := fun fl fd f h hf => by
  obtain rfl := TypeDesc.struct.inj (Option.some.inj (h0.symm.trans h))
  exact List.all_eq_true.mp ha fd (by rw [Array.mem_toList_iff]; exact Array.mem_of_getElem? hf)
theorem aund_of {u : Option TypeDesc} {n0 : Nat} {e0 : TypeId} (h0 : u = some (.array n0 e0)) (ha : (PP.underlying e0).isSome = true) :
    ∀ n e, u = some (.array n e) → (PP.underlying e).isSome := fun n e h => by
  obtain ⟨h1, rfl⟩ := TypeDesc.array.inj (Option.some.inj (h0.symm.trans h))
  exact ha
theorem fund_no {u : Option TypeDesc} {d : TypeDesc} (h0 : u = some d) (hd : ∀ fl, d ≠ .struct fl) :
    ∀ fl (fd : Field) (f : Nat), u = some (.struct fl) → fl[f]? = some fd → (PP.underlying fd.type).isSome := fun fl fd f h hf => by
  exact absurd (Option.some.inj (h0.symm.trans h)) (hd fl)
theorem aund_no {u : Option TypeDesc} {d : TypeDesc} (h0 : u = some d) (hd : ∀ n e, d ≠ .array n e) :
    ∀ n e, u = some (.array n e) → (PP.underlying e).isSome := fun n e h => by
  exact absurd (Option.some.inj (h0.symm.trans h)) (hd n e)
def i2 : TI D.S := ⟨.int .i64, false, 1, 8, [.int .i64 0], some (.int .i64), []⟩
theorem t2 : TiOk D PP 2 i2 where
  info := ti_of (by kernel_rfl) (by kernel_rfl) (by kernel_rfl) (by kernel_rfl) (by kernel_rfl) (fun h => by cases h)
  desc := Tryd.underlying2
  agg := by kernel_rfl
  pos := by decide
  und := by kernel_rfl
  byt := by decide
  zlen := rfl
  eqk := .inl rfl
  ty := fun τ h => by cases h; exact ⟨rfl, rfl⟩
  fld := fun fs h => by cases h
  fund := fund_no Tryd.underlying2 (fun _ h => by cases h)
  aund := aund_no Tryd.underlying2 (fun _ _ h => by cases h)
def i3 : TI D.S := ⟨.int .i64, false, 1, 8, [.int .i64 0], some (.int .i64), []⟩
theorem t3 : TiOk D PP 3 i3 where
  info := ti_of (by kernel_rfl) (by kernel_rfl) (by kernel_rfl) (by kernel_rfl) (by kernel_rfl) (fun h => by cases h)
  desc := Tryd.underlying3
  agg := by kernel_rfl
  pos := by decide
  und := by kernel_rfl
  byt := by decide
  zlen := rfl
  eqk := .inl rfl
  ty := fun τ h => by cases h; exact ⟨rfl, rfl⟩
  fld := fun fs h => by cases h
  fund := fund_no Tryd.underlying3 (fun _ h => by cases h)
  aund := aund_no Tryd.underlying3 (fun _ _ h => by cases h)
def i4 : TI D.S := ⟨.bool, false, 1, 1, [.bool false], some (.bool), []⟩
theorem t4 : TiOk D PP 4 i4 where
  info := ti_of (by kernel_rfl) (by kernel_rfl) (by kernel_rfl) (by kernel_rfl) (by kernel_rfl) (fun h => by cases h)
  desc := Tryd.underlying4
  agg := by kernel_rfl
  pos := by decide
  und := by kernel_rfl
  byt := by decide
  zlen := rfl
  eqk := .inl rfl
  ty := fun τ h => by cases h; exact ⟨rfl, rfl⟩
  fld := fun fs h => by cases h
  fund := fund_no Tryd.underlying4 (fun _ h => by cases h)
  aund := aund_no Tryd.underlying4 (fun _ _ h => by cases h)
def i5 : TI D.S := ⟨.int .u8, false, 1, 1, [.int .u8 0], some (.int .u8), []⟩
theorem t5 : TiOk D PP 5 i5 where
  info := ti_of (by kernel_rfl) (by kernel_rfl) (by kernel_rfl) (by kernel_rfl) (by kernel_rfl) (fun h => by cases h)
  desc := Tryd.underlying5
  agg := by kernel_rfl
  pos := by decide
  und := by kernel_rfl
  byt := by decide
  zlen := rfl
  eqk := .inl rfl
  ty := fun τ h => by cases h; exact ⟨rfl, rfl⟩
  fld := fun fs h => by cases h
  fund := fund_no Tryd.underlying5 (fun _ h => by cases h)
  aund := aund_no Tryd.underlying5 (fun _ _ h => by cases h)
def i9 : TI D.S := ⟨.str, false, 1, 16, [.str ByteArray.empty], some (.str), []⟩
theorem t9 : TiOk D PP 9 i9 where
  info := ti_of (by kernel_rfl) (by kernel_rfl) (by kernel_rfl) (by kernel_rfl) (by kernel_rfl) (fun h => by cases h)
  desc := Tryd.underlying9
  agg := by kernel_rfl
  pos := by decide
  und := by kernel_rfl
  byt := by decide
  zlen := rfl
  eqk := .inl rfl
  ty := fun τ h => by cases h; exact ⟨rfl, rfl⟩
  fld := fun fs h => by cases h
  fund := fund_no Tryd.underlying9 (fun _ h => by cases h)
  aund := aund_no Tryd.underlying9 (fun _ _ h => by cases h)
def i22 : TI D.S := ⟨.slice 31, false, 1, 24, [.nils], some (.sl (.st 0)), []⟩
theorem t22 : TiOk D PP 22 i22 where
  info := ti_of (by kernel_rfl) (by kernel_rfl) (by kernel_rfl) (by kernel_rfl) (by kernel_rfl) (fun h => by cases h)
  desc := Tryd.underlying22
  agg := by kernel_rfl
  pos := by decide
  und := by kernel_rfl
  byt := by decide
  zlen := rfl
  eqk := .inl rfl
  ty := fun τ h => by cases h; exact ⟨rfl, rfl⟩
  fld := fun fs h => by cases h
  fund := fund_no Tryd.underlying22 (fun _ h => by cases h)
  aund := aund_no Tryd.underlying22 (fun _ _ h => by cases h)
def i24 : TI D.S := ⟨.struct [(0, 1, false), (1, 1, false)], true, 2, 16, [.int .i64 0, .int .i64 0], some (.st 1), [.int .i64, .int .i64]⟩
theorem t24 : TiOk D PP 24 i24 where
  info := ti_of (by kernel_rfl) (by kernel_rfl) (by kernel_rfl) (by kernel_rfl) (by kernel_rfl) (fun _ => by kernel_rfl)
  desc := ⟨_, Tryd.underlying24, by kernel_rfl⟩
  agg := by kernel_rfl
  pos := by decide
  und := by kernel_rfl
  byt := by decide
  zlen := rfl
  eqk := .inr ⟨20, by decide, by kernel_rfl, by kernel_rfl, by kernel_rfl⟩
  ty := fun τ h => by cases h; exact ⟨rfl, rfl⟩
  fld := fun fs h => by cases h; decide
  fund := fund_of Tryd.underlying24 (by kernel_rfl)
  aund := aund_no Tryd.underlying24 (fun _ _ h => by cases h)
def i27 : TI D.S := ⟨.slice 42, false, 1, 24, [.nils], some (.sl (.st 2)), []⟩
theorem t27 : TiOk D PP 27 i27 where
  info := ti_of (by kernel_rfl) (by kernel_rfl) (by kernel_rfl) (by kernel_rfl) (by kernel_rfl) (fun h => by cases h)
  desc := Tryd.underlying27
  agg := by kernel_rfl
  pos := by decide
  und := by kernel_rfl
  byt := by decide
  zlen := rfl
  eqk := .inl rfl
  ty := fun τ h => by cases h; exact ⟨rfl, rfl⟩
  fld := fun fs h => by cases h
  fund := fund_no Tryd.underlying27 (fun _ h => by cases h)
  aund := aund_no Tryd.underlying27 (fun _ _ h => by cases h)
def i29 : TI D.S := ⟨.slice 60, false, 1, 24, [.nils], some (.sl (.int .u32)), []⟩
theorem t29 : TiOk D PP 29 i29 where
  info := ti_of (by kernel_rfl) (by kernel_rfl) (by kernel_rfl) (by kernel_rfl) (by kernel_rfl) (fun h => by cases h)
  desc := Tryd.underlying29
  agg := by kernel_rfl
  pos := by decide
  und := by kernel_rfl
  byt := by decide
  zlen := rfl
  eqk := .inl rfl
  ty := fun τ h => by cases h; exact ⟨rfl, rfl⟩
  fld := fun fs h => by cases h
  fund := fund_no Tryd.underlying29 (fun _ h => by cases h)
  aund := aund_no Tryd.underlying29 (fun _ _ h => by cases h)
def i31 : TI D.S := ⟨.struct [(0, 1, false), (1, 1, false)], true, 2, 32, [.bool false, .nils], some (.st 0), []⟩
theorem t31 : TiOk D PP 31 i31 where
  info := ti_of (by kernel_rfl) (by kernel_rfl) (by kernel_rfl) (by kernel_rfl) (by kernel_rfl) (fun _ => by kernel_rfl)
  desc := ⟨_, Tryd.underlying31, by kernel_rfl⟩
  agg := by kernel_rfl
  pos := by decide
  und := by kernel_rfl
  byt := by decide
  zlen := rfl
  eqk := .inl rfl
  ty := fun τ h => by cases h; exact ⟨rfl, rfl⟩
  fld := fun fs h => by cases h; decide
  fund := fund_of Tryd.underlying31 (by kernel_rfl)
  aund := aund_no Tryd.underlying31 (fun _ _ h => by cases h)
def i32 : TI D.S := ⟨.int .i64, false, 1, 8, [.int .i64 0], some (.int .i64), []⟩
theorem t32 : TiOk D PP 32 i32 where
  info := ti_of (by kernel_rfl) (by kernel_rfl) (by kernel_rfl) (by kernel_rfl) (by kernel_rfl) (fun h => by cases h)
  desc := Tryd.underlying32
  agg := by kernel_rfl
  pos := by decide
  und := by kernel_rfl
  byt := by decide
  zlen := rfl
  eqk := .inl rfl
  ty := fun τ h => by cases h; exact ⟨rfl, rfl⟩
  fld := fun fs h => by cases h
  fund := fund_no Tryd.underlying32 (fun _ h => by cases h)
  aund := aund_no Tryd.underlying32 (fun _ _ h => by cases h)
def i40 : TI D.S := ⟨.slice 65, false, 1, 24, [.nils], some (.sl (.int .u64)), []⟩
theorem t40 : TiOk D PP 40 i40 where
  info := ti_of (by kernel_rfl) (by kernel_rfl) (by kernel_rfl) (by kernel_rfl) (by kernel_rfl) (fun h => by cases h)
  desc := Tryd.underlying40
  agg := by kernel_rfl
  pos := by decide
  und := by kernel_rfl
  byt := by decide
  zlen := rfl
  eqk := .inl rfl
  ty := fun τ h => by cases h; exact ⟨rfl, rfl⟩
  fld := fun fs h => by cases h
  fund := fund_no Tryd.underlying40 (fun _ h => by cases h)
  aund := aund_no Tryd.underlying40 (fun _ _ h => by cases h)
def i42 : TI D.S := ⟨.struct [(0, 1, false), (1, 1, false)], true, 2, 32, [.bool false, .nils], some (.st 2), []⟩
theorem t42 : TiOk D PP 42 i42 where
  info := ti_of (by kernel_rfl) (by kernel_rfl) (by kernel_rfl) (by kernel_rfl) (by kernel_rfl) (fun _ => by kernel_rfl)
  desc := ⟨_, Tryd.underlying42, by kernel_rfl⟩
  agg := by kernel_rfl
  pos := by decide
  und := by kernel_rfl
  byt := by decide
  zlen := rfl
  eqk := .inl rfl
  ty := fun τ h => by cases h; exact ⟨rfl, rfl⟩
  fld := fun fs h => by cases h; decide
  fund := fund_of Tryd.underlying42 (by kernel_rfl)
  aund := aund_no Tryd.underlying42 (fun _ _ h => by cases h)
def i52 : TI D.S := ⟨.slice 2, false, 1, 24, [.nils], some (.sl (.int .i64)), []⟩
theorem t52 : TiOk D PP 52 i52 where
  info := ti_of (by kernel_rfl) (by kernel_rfl) (by kernel_rfl) (by kernel_rfl) (by kernel_rfl) (fun h => by cases h)
  desc := Tryd.underlying52
  agg := by kernel_rfl
  pos := by decide
  und := by kernel_rfl
  byt := by decide
  zlen := rfl
  eqk := .inl rfl
  ty := fun τ h => by cases h; exact ⟨rfl, rfl⟩
  fld := fun fs h => by cases h
  fund := fund_no Tryd.underlying52 (fun _ h => by cases h)
  aund := aund_no Tryd.underlying52 (fun _ _ h => by cases h)
def i60 : TI D.S := ⟨.int .u32, false, 1, 4, [.int .u32 0], some (.int .u32), []⟩
theorem t60 : TiOk D PP 60 i60 where
  info := ti_of (by kernel_rfl) (by kernel_rfl) (by kernel_rfl) (by kernel_rfl) (by kernel_rfl) (fun h => by cases h)
  desc := Tryd.underlying60
  agg := by kernel_rfl
  pos := by decide
  und := by kernel_rfl
  byt := by decide
  zlen := rfl
  eqk := .inl rfl
  ty := fun τ h => by cases h; exact ⟨rfl, rfl⟩
  fld := fun fs h => by cases h
  fund := fund_no Tryd.underlying60 (fun _ h => by cases h)
  aund := aund_no Tryd.underlying60 (fun _ _ h => by cases h)
def i65 : TI D.S := ⟨.int .u64, false, 1, 8, [.int .u64 0], some (.int .u64), []⟩
theorem t65 : TiOk D PP 65 i65 where
  info := ti_of (by kernel_rfl) (by kernel_rfl) (by kernel_rfl) (by kernel_rfl) (by kernel_rfl) (fun h => by cases h)
  desc := Tryd.underlying65
  agg := by kernel_rfl
  pos := by decide
  und := by kernel_rfl
  byt := by decide
  zlen := rfl
  eqk := .inl rfl
  ty := fun τ h => by cases h; exact ⟨rfl, rfl⟩
  fld := fun fs h => by cases h
  fund := fund_no Tryd.underlying65 (fun _ h => by cases h)
  aund := aund_no Tryd.underlying65 (fun _ _ h => by cases h)
def i73 : TI D.S := ⟨.func, false, 1, 8, [.nilf], none, []⟩
theorem t73 : TiOk D PP 73 i73 where
  info := ti_of (by kernel_rfl) (by kernel_rfl) (by kernel_rfl) (by kernel_rfl) (by kernel_rfl) (fun h => by cases h)
  desc := ⟨_, _, _, Tryd.underlying73⟩
  agg := by kernel_rfl
  pos := by decide
  und := by kernel_rfl
  byt := by decide
  zlen := rfl
  eqk := .inl rfl
  ty := fun τ h => by cases h
  fld := fun fs h => by cases h
  fund := fund_no Tryd.underlying73 (fun _ h => by cases h)
  aund := aund_no Tryd.underlying73 (fun _ _ h => by cases h)
def i81 : TI D.S := ⟨.struct [(0, 1, false), (1, 1, false)], true, 2, 16, [.int .u64 0, .int .u64 0], some (.st 3), [.int .u64, .int .u64]⟩
theorem t81 : TiOk D PP 81 i81 where
  info := ti_of (by kernel_rfl) (by kernel_rfl) (by kernel_rfl) (by kernel_rfl) (by kernel_rfl) (fun _ => by kernel_rfl)
  desc := ⟨_, Tryd.underlying81, by kernel_rfl⟩
  agg := by kernel_rfl
  pos := by decide
  und := by kernel_rfl
  byt := by decide
  zlen := rfl
  eqk := .inr ⟨20, by decide, by kernel_rfl, by kernel_rfl, by kernel_rfl⟩
  ty := fun τ h => by cases h; exact ⟨rfl, rfl⟩
  fld := fun fs h => by cases h; decide
  fund := fund_of Tryd.underlying81 (by kernel_rfl)
  aund := aund_no Tryd.underlying81 (fun _ _ h => by cases h)
def i93 : TI D.S := ⟨.int .u64, false, 1, 8, [.int .u64 0], some (.int .u64), []⟩
theorem t93 : TiOk D PP 93 i93 where
  info := ti_of (by kernel_rfl) (by kernel_rfl) (by kernel_rfl) (by kernel_rfl) (by kernel_rfl) (fun h => by cases h)
  desc := Tryd.underlying93
  agg := by kernel_rfl
  pos := by decide
  und := by kernel_rfl
  byt := by decide
  zlen := rfl
  eqk := .inl rfl
  ty := fun τ h => by cases h; exact ⟨rfl, rfl⟩
  fld := fun fs h => by cases h
  fund := fund_no Tryd.underlying93 (fun _ h => by cases h)
  aund := aund_no Tryd.underlying93 (fun _ _ h => by cases h)
def i112 : TI D.S := ⟨.iface, false, 1, 16, [.nili], none, []⟩
theorem t112 : TiOk D PP 112 i112 where
  info := ti_of (by kernel_rfl) (by kernel_rfl) (by kernel_rfl) (by kernel_rfl) (by kernel_rfl) (fun h => by cases h)
  desc := ⟨_, Tryd.underlying112⟩
  agg := by kernel_rfl
  pos := by decide
  und := by kernel_rfl
  byt := by decide
  zlen := rfl
  eqk := .inl rfl
  ty := fun τ h => by cases h
  fld := fun fs h => by cases h
  fund := fund_no Tryd.underlying112 (fun _ h => by cases h)
  aund := aund_no Tryd.underlying112 (fun _ _ h => by cases h)
def i115 : TI D.S := ⟨.array 64 1 false, true, 64, 64, [.int .u8 0, .int .u8 0, .int .u8 0, .int .u8 0, .int .u8 0, .int .u8 0, .int .u8 0, .int .u8 0, .int .u8 0, .int .u8 0, .int .u8 0, .int .u8 0, .int .u8 0, .int .u8 0, .int .u8 0, .int .u8 0, .int .u8 0, .int .u8 0, .int .u8 0, .int .u8 0, .int .u8 0, .int .u8 0, .int .u8 0, .int .u8 0, .int .u8 0, .int .u8 0, .int .u8 0, .int .u8 0, .int .u8 0, .int .u8 0, .int .u8 0, .int .u8 0, .int .u8 0, .int .u8 0, .int .u8 0, .int .u8 0, .int .u8 0, .int .u8 0, .int .u8 0, .int .u8 0, .int .u8 0, .int .u8 0, .int .u8 0, .int .u8 0, .int .u8 0, .int .u8 0, .int .u8 0, .int .u8 0, .int .u8 0, .int .u8 0, .int .u8 0, .int .u8 0, .int .u8 0, .int .u8 0, .int .u8 0, .int .u8 0, .int .u8 0, .int .u8 0, .int .u8 0, .int .u8 0, .int .u8 0, .int .u8 0, .int .u8 0, .int .u8 0], none, []⟩
theorem t115 : TiOk D PP 115 i115 where
  info := ti_of (by kernel_rfl) (by kernel_rfl) (by kernel_rfl) (by kernel_rfl) (by kernel_rfl) (fun _ => by kernel_rfl)
  desc := ⟨_, Tryd.underlying115, by kernel_rfl, by kernel_rfl, by kernel_rfl, by decide⟩
  agg := by kernel_rfl
  pos := by decide
  und := by kernel_rfl
  byt := by decide
  zlen := rfl
  eqk := .inl rfl
  ty := fun τ h => by cases h
  fld := fun fs h => by cases h
  fund := fund_no Tryd.underlying115 (fun _ h => by cases h)
  aund := aund_of Tryd.underlying115 (by kernel_rfl)
def i116 : TI D.S := ⟨.slice 3, false, 1, 24, [.nils], some (.sl (.int .i64)), []⟩
theorem t116 : TiOk D PP 116 i116 where
  info := ti_of (by kernel_rfl) (by kernel_rfl) (by kernel_rfl) (by kernel_rfl) (by kernel_rfl) (fun h => by cases h)
  desc := Tryd.underlying116
  agg := by kernel_rfl
  pos := by decide
  und := by kernel_rfl
  byt := by decide
  zlen := rfl
  eqk := .inl rfl
  ty := fun τ h => by cases h; exact ⟨rfl, rfl⟩
  fld := fun fs h => by cases h
  fund := fund_no Tryd.underlying116 (fun _ h => by cases h)
  aund := aund_no Tryd.underlying116 (fun _ _ h => by cases h)
theorem D_ti : ∀ t i, (t, i) ∈ D.ti → TiOk D PP t i := fun t i h => by
  have h : (t, i) ∈ [(2, i2), (3, i3), (4, i4), (5, i5), (9, i9), (22, i22), (24, i24), (27, i27), (29, i29), (31, i31), (32, i32), (40, i40), (42, i42), (52, i52), (60, i60), (65, i65), (73, i73), (81, i81), (93, i93), (112, i112), (115, i115), (116, i116)] := h
  simp only [List.mem_cons, List.not_mem_nil, or_false, Prod.mk.injEq] at h
  rcases h with ⟨rfl, rfl⟩ | ⟨rfl, rfl⟩ | ⟨rfl, rfl⟩ | ⟨rfl, rfl⟩ | ⟨rfl, rfl⟩ | ⟨rfl, rfl⟩ | ⟨rfl, rfl⟩ | ⟨rfl, rfl⟩ | ⟨rfl, rfl⟩ | ⟨rfl, rfl⟩ | ⟨rfl, rfl⟩ | ⟨rfl, rfl⟩ | ⟨rfl, rfl⟩ | ⟨rfl, rfl⟩ | ⟨rfl, rfl⟩ | ⟨rfl, rfl⟩ | ⟨rfl, rfl⟩ | ⟨rfl, rfl⟩ | ⟨rfl, rfl⟩ | ⟨rfl, rfl⟩ | ⟨rfl, rfl⟩ | ⟨rfl, rfl⟩
  · exact t2
  · exact t3
  · exact t4
  · exact t5
  · exact t9
  · exact t22
  · exact t24
  · exact t27
  · exact t29
  · exact t31
  · exact t32
  · exact t40
  · exact t42
  · exact t52
  · exact t60
  · exact t65
  · exact t73
  · exact t81
  · exact t93
  · exact t112
  · exact t115
  · exact t116
theorem lw : Lawful D PP where
  len := D_len
  dec := D_dec
  pure := D_pure
  ti := D_ti
  mixed := by kernel_rfl
end Go.Proofs.YtidiifdiilahdaaDoor.Ev
