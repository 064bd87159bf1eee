/- Printed by a program of this claim: the seat's types, as they are told by value; that the table says what the program says. -/
import Derived.Test.YtalghbndblgndaaProg
import Derived.Test.YtalghbndblgndaaEvAd
import Derived.KernelRfl
import Derived.Lib.TrailingZeros
namespace Go.Proofs.Ytalghbndblgndaa.Ev
open Go
set_option linter.unusedVariables false
structure S47 where
  mk ::
  f0 : Int
  f1 : Int
  f2 : Int
  f3 : Int
  f4 : Int
  f5 : Int
  f6 : Int
structure S192 where
  mk ::
  f0 : ByteArray
  f1 : Int
  f2 : Bool
structure S139 where
  mk ::
  f0 : ByteArray
  f1 : Int
  f2 : Bool
structure Ih where
  T : Type
  d : T
def tabT (n : Nat) : Ih := match n with
  | 0 => ⟨S47, ⟨0, 0, 0, 0, 0, 0, 0⟩⟩
  | 1 => ⟨S192, ⟨ByteArray.empty, 0, false⟩⟩
  | 2 => ⟨S139, ⟨ByteArray.empty, 0, false⟩⟩
  | _ => ⟨Unit, ()⟩
def SS (n : Nat) : Type := (tabT n).T
def decS (t : Ty) (c : C SS) : Option (List (T SS t)) := match c with
  | .lst t' l => match Ty.eq? t' t with | some ⟨h⟩ => some (h ▸ l) | none => none
  | .nils => some []
  | .emp => some []
  | _ => none
def dec0 (l : List (C SS)) : Option S47 := match l with | [.int .i64 a0, .int .i64 a1, .int .i64 a2, .int .i64 a3, .int .i64 a4, .int .i64 a5, .int .i64 a6] => some (⟨a0, a1, a2, a3, a4, a5, a6⟩ : S47) | _ => none
def dec1 (l : List (C SS)) : Option S192 := match l with | [.str a0, .int .i64 a1, .bool a2] => some (⟨a0, a1, a2⟩ : S192) | _ => none
def dec2 (l : List (C SS)) : Option S139 := match l with | [.str a0, .int .i64 a1, .bool a2] => some (⟨a0, a1, a2⟩ : S139) | _ => none
def D : Tys where
  S := SS
  enc := fun n => match n with
    | 0 => fun (x : S47) => [.int .i64 x.f0, .int .i64 x.f1, .int .i64 x.f2, .int .i64 x.f3, .int .i64 x.f4, .int .i64 x.f5, .int .i64 x.f6]
    | 1 => fun (x : S192) => [.str x.f0, .int .i64 x.f1, .bool x.f2]
    | 2 => fun (x : S139) => [.str x.f0, .int .i64 x.f1, .bool x.f2]
    | _ => fun _ => []
  dec := fun n => match n with
    | 0 => dec0
    | 1 => dec1
    | 2 => dec2
    | _ => fun _ => none
  dfl := fun n => (tabT n).d
  siz := fun n => match n with | 0 => 7 | 1 => 3 | 2 => 3 | _ => 0
  ti := [(3, ⟨.int .i64, false, 1, 8, [.int .i64 0], some (.int .i64), []⟩),
    (4, ⟨.bool, false, 1, 1, [.bool false], some (.bool), []⟩),
    (5, ⟨.int .u8, false, 1, 1, [.int .u8 0], some (.int .u8), []⟩),
    (9, ⟨.str, false, 1, 16, [.str ByteArray.empty], some (.str), []⟩),
    (20, ⟨.iface, false, 1, 16, [.nili], none, []⟩),
    (26, ⟨.int .i64, false, 1, 8, [.int .i64 0], some (.int .i64), []⟩),
    (41, ⟨.slice 47, false, 1, 24, [.nils], some (.sl (.st 0)), []⟩),
    (44, ⟨.int .i8, false, 1, 1, [.int .i8 0], some (.int .i8), []⟩),
    (47, ⟨.struct [(0, 1, false), (1, 1, false), (2, 1, false), (3, 1, false), (4, 1, false), (5, 1, false), (6, 1, false)], true, 7, 56, [.int .i64 0, .int .i64 0, .int .i64 0, .int .i64 0, .int .i64 0, .int .i64 0, .int .i64 0], some (.st 0), [.int .i64, .int .i64, .int .i64, .int .i64, .int .i64, .int .i64, .int .i64]⟩),
    (57, ⟨.int .u16, false, 1, 2, [.int .u16 0], some (.int .u16), []⟩),
    (86, ⟨.slice 5, false, 1, 24, [.nils], some (.sl (.int .u8)), []⟩),
    (90, ⟨.slice 3, false, 1, 24, [.nils], some (.sl (.int .i64)), []⟩),
    (111, ⟨.ptr 113, false, 1, 8, [.nilp], none, []⟩),
    (113, ⟨.struct [(0, 1, false), (1, 1, false)], true, 2, 32, [.nilp, .nils], none, []⟩),
    (118, ⟨.iface, false, 1, 16, [.nili], none, []⟩),
    (126, ⟨.int .u32, false, 1, 4, [.int .u32 0], some (.int .u32), []⟩),
    (129, ⟨.ptr 192, false, 1, 8, [.nilp], none, []⟩),
    (133, ⟨.int .i16, false, 1, 2, [.int .i16 0], some (.int .i16), []⟩),
    (137, ⟨.ptr 139, false, 1, 8, [.nilp], none, []⟩),
    (139, ⟨.struct [(0, 1, false), (1, 1, false), (2, 1, false)], true, 3, 32, [.str ByteArray.empty, .int .i64 0, .bool false], some (.st 2), [.str, .int .i64, .bool]⟩),
    (190, ⟨.ptr 5, false, 1, 8, [.nilp], none, []⟩),
    (192, ⟨.struct [(0, 1, false), (1, 1, false), (2, 1, false)], true, 3, 32, [.str ByteArray.empty, .int .i64 0, .bool false], some (.st 1), [.str, .int .i64, .bool]⟩),
    (199, ⟨.int .u64, false, 1, 8, [.int .u64 0], some (.int .u64), []⟩),
    (209, ⟨.ptr 47, false, 1, 8, [.nilp], none, []⟩),
    (228, ⟨.int .u64, false, 1, 8, [.int .u64 0], some (.int .u64), []⟩)]
  mode := [(133, ⟨[.val], false, none⟩), (85, ⟨[.val, .val], false, none⟩), (35, ⟨[.val, .val], false, none⟩), (96, ⟨[.val], false, none⟩), (80, ⟨[.val], false, none⟩), (81, ⟨[.val, .val], false, none⟩), (131, ⟨[.val], false, none⟩), (132, ⟨[.val], false, none⟩), (82, ⟨[.val, .val], false, none⟩), (33, ⟨[.val], false, none⟩), (138, ⟨[.val, .val, .val], false, none⟩), (139, ⟨[.val], false, none⟩), (88, ⟨[.val, .val], false, none⟩), (39, ⟨[.val], false, none⟩), (70, ⟨[.val], true, some ⟨[.val], [(0, some (.st 1))]⟩⟩), (120, ⟨[.ref, .val], false, none⟩), (119, ⟨[.ref], false, none⟩), (73, ⟨[.ref], false, none⟩), (135, ⟨[.val], false, none⟩), (71, ⟨[.ref], false, none⟩), (158, ⟨[.ref], false, none⟩), (136, ⟨[.ref, .val], false, none⟩), (137, ⟨[.ref, .val, .ref], false, none⟩), (87, ⟨[.ref, .val], false, none⟩), (37, ⟨[.val, .val], true, none⟩), (90, ⟨[.val], false, none⟩), (91, ⟨[.val], false, none⟩), (92, ⟨[.val], false, none⟩), (42, ⟨[.val, .val, .val], false, none⟩), (32, ⟨[], false, none⟩), (134, ⟨[.val], false, none⟩), (86, ⟨[.val, .val], false, none⟩), (36, ⟨[.val, .val], false, none⟩), (67, ⟨[.val, .val], false, none⟩), (83, ⟨[.val], false, none⟩), (84, ⟨[.val], false, none⟩), (34, ⟨[.val], false, none⟩), (38, ⟨[.val, .val], false, none⟩), (8, ⟨[.val, .val], false, none⟩), (41, ⟨[.val], false, none⟩), (125, ⟨[.val, .val, .val], false, none⟩), (76, ⟨[.ref, .val], false, none⟩), (126, ⟨[.val], false, none⟩), (77, ⟨[.ref, .val], false, none⟩), (75, ⟨[.ref], false, none⟩), (140, ⟨[.ref], false, none⟩), (89, ⟨[.ref, .val], false, none⟩), (40, ⟨[.val, .val], true, none⟩), (9, ⟨[.val, .val], false, none⟩), (93, ⟨[.val], false, none⟩), (94, ⟨[.val], false, none⟩), (43, ⟨[.val, .val, .val], false, none⟩), (10, ⟨[.val, .val, .val], false, none⟩)]
def grd {R : Type} (b : Bool) (k : Option R) : Option R := cond b k none
abbrev wr (k : IntKind) (n : Int) : Int := k.wrap n
def z0 : S47 := ⟨0, 0, 0, 0, 0, 0, 0⟩
def z1 : S192 := ⟨ByteArray.empty, 0, false⟩
def z2 : S139 := ⟨ByteArray.empty, 0, false⟩
noncomputable abbrev PP : Program := Try.prog
theorem D_len : ∀ n x, (D.enc n x).length = D.siz n
  | 0, x => rfl
  | 1, x => rfl
  | 2, x => rfl
  | n + 3, x => rfl
def plainC : C SS → Bool | .int _ _ | .bool _ | .str _ | .lst _ _ | .nilp | .fptr _ _ _ _ => true | _ => false
theorem plain_ok {c : C SS} (h : plainC c = true) (w : World) (F : Nat → Prop) (hh : Hp D) (β : Nat → Option Loc) (v : Value) : RC D w F hh β c v ↔ RP D w F c v := by
  cases c <;> first | exact Iff.rfl | (simp [plainC] at h)
theorem D_plain : ∀ n x, (D.enc n x).all plainC = true
  | 0, x => rfl
  | 1, x => rfl
  | 2, x => rfl
  | n + 3, x => rfl
theorem D_pure : ∀ n x c, c ∈ D.enc n x → ∀ w F h β v, RC D w F h β c v ↔ RP D w F c v := fun n x c hc w F h β v => plain_ok (List.all_eq_true.mp (D_plain n x) c hc) w F h β v
theorem decS_eq (t : Ty) (c : C D.S) : decS t c = decC D (.sl t) c := by cases c <;> rfl
theorem decS_le {t : Ty} {c : C D.S} {l : List (T D.S t)} (h : decS t c = some l) : Ceq c (.lst t l) := decC_eq (D := D) (t := .sl t) (by rw [← decS_eq]; exact h) (fun n e => by cases e) _ rfl
theorem CL0 : CQ (D := D) [] [] := CQ.rfl' _
theorem CL1 {c c' : C D.S} {l l' : List (C D.S)} (h : Ceq c c') (t : CQ l l') : CQ (c :: l) (c' :: l') := ⟨by simp [t.1], fun i x x' h1 h2 => by
  cases i with
  | zero => simp at h1 h2; subst h1; subst h2; exact h
  | succ i => simp at h1 h2; exact t.2 i x x' h1 h2⟩
theorem D_dec0 (cs : List (C SS)) (x : S47) (h : dec0 cs = some x) : CQ (D := D) cs (D.enc 0 x) := by
  unfold dec0 at h
  split at h
  · obtain rfl := Option.some.inj h; exact CQ.rfl' _
  · cases h
theorem D_dec1 (cs : List (C SS)) (x : S192) (h : dec1 cs = some x) : CQ (D := D) cs (D.enc 1 x) := by
  unfold dec1 at h
  split at h
  · obtain rfl := Option.some.inj h; exact CQ.rfl' _
  · cases h
theorem D_dec2 (cs : List (C SS)) (x : S139) (h : dec2 cs = some x) : CQ (D := D) cs (D.enc 2 x) := by
  unfold dec2 at h
  split at h
  · obtain rfl := Option.some.inj h; exact CQ.rfl' _
  · cases h
theorem D_dec : ∀ n cs x, D.dec n cs = some x → cs.length = D.siz n ∧ ∀ (j : Nat) c c', cs[j]? = some c → (D.enc n x)[j]? = some c' → Ceq c c'
  | 0, cs, x, h => ⟨(D_dec0 cs x h).1.trans (D_len 0 x), (D_dec0 cs x h).2⟩
  | 1, cs, x, h => ⟨(D_dec1 cs x h).1.trans (D_len 1 x), (D_dec1 cs x h).2⟩
  | 2, cs, x, h => ⟨(D_dec2 cs x h).1.trans (D_len 2 x), (D_dec2 cs x h).2⟩
  | n + 3, cs, x, h => by cases h
theorem ti_of {t : TypeId} {i : TI D.S} (hs : (PP.info? t).isSome = true) (h1 : ((PP.info? t).get hs).size = i.size) (h2 : ((PP.info? t).get hs).bytes = i.bytes) (hz : ((PP.info? t).get hs).zero.isSome = true)
    (h3 : (((PP.info? t).get hs).zero.get hz).cells.toList.map some = i.zero.map valOf) (h4 : i.agg = true → ((PP.info? t).get hs).zero.get hz = .agg (((PP.info? t).get hs).zero.get hz).cells) :
    ∃ j, PP.info? t = some j ∧ j.size = i.size ∧ j.bytes = i.bytes ∧ ∃ z, j.zero = some z ∧ z.cells.toList.map some = i.zero.map valOf ∧ (i.agg = true → z = .agg z.cells) :=
  ⟨_, (Option.some_get hs).symm, h1, h2, _, (Option.some_get hz).symm, h3, h4⟩
theorem fund_of {u : Option TypeDesc} {fl0 : Array Field} (h0 : u = some (.struct fl0)) (ha : (fl0.toList.all fun fd => (PP.underlying fd.type).isSome) = true) :
    ∀ fl (fd : Field) (f : Nat), u = some (.struct fl) → fl[f]? = some fd → (PP.underlying fd.type).isSome := fun fl fd f h hf => by
  obtain rfl := TypeDesc.struct.inj (Option.some.inj (h0.symm.trans h))
  exact List.all_eq_true.mp ha fd (by rw [Array.mem_toList_iff]; exact Array.mem_of_getElem? hf)
theorem aund_of {u : Option TypeDesc} {n0 : Nat} {e0 : TypeId} (h0 : u = some (.array n0 e0)) (ha : (PP.underlying e0).isSome = true) :
    ∀ n e, u = some (.array n e) → (PP.underlying e).isSome := fun n e h => by
  obtain ⟨h1, rfl⟩ := TypeDesc.array.inj (Option.some.inj (h0.symm.trans h))
  exact ha
theorem fund_no {u : Option TypeDesc} {d : TypeDesc} (h0 : u = some d) (hd : ∀ fl, d ≠ .struct fl) :
    ∀ fl (fd : Field) (f : Nat), u = some (.struct fl) → fl[f]? = some fd → (PP.underlying fd.type).isSome := fun fl fd f h hf => by
  exact absurd (Option.some.inj (h0.symm.trans h)) (hd fl)
theorem aund_no {u : Option TypeDesc} {d : TypeDesc} (h0 : u = some d) (hd : ∀ n e, d ≠ .array n e) :
    ∀ n e, u = some (.array n e) → (PP.underlying e).isSome := fun n e h => by
  exact absurd (Option.some.inj (h0.symm.trans h)) (hd n e)
def i3 : TI D.S := ⟨.int .i64, false, 1, 8, [.int .i64 0], some (.int .i64), []⟩
theorem t3 : TiOk D PP 3 i3 where
  info := ti_of (by kernel_rfl) (by kernel_rfl) (by kernel_rfl) (by kernel_rfl) (by kernel_rfl) (fun h => by cases h)
  desc := Try.underlying3
  agg := by kernel_rfl
  pos := by decide
  und := by kernel_rfl
  byt := by decide
  zlen := rfl
  eqk := .inl rfl
  ty := fun τ h => by cases h; exact ⟨rfl, rfl⟩
  fld := fun fs h => by cases h
  fund := fund_no Try.underlying3 (fun _ h => by cases h)
  aund := aund_no Try.underlying3 (fun _ _ h => by cases h)
def i4 : TI D.S := ⟨.bool, false, 1, 1, [.bool false], some (.bool), []⟩
theorem t4 : TiOk D PP 4 i4 where
  info := ti_of (by kernel_rfl) (by kernel_rfl) (by kernel_rfl) (by kernel_rfl) (by kernel_rfl) (fun h => by cases h)
  desc := Try.underlying4
  agg := by kernel_rfl
  pos := by decide
  und := by kernel_rfl
  byt := by decide
  zlen := rfl
  eqk := .inl rfl
  ty := fun τ h => by cases h; exact ⟨rfl, rfl⟩
  fld := fun fs h => by cases h
  fund := fund_no Try.underlying4 (fun _ h => by cases h)
  aund := aund_no Try.underlying4 (fun _ _ h => by cases h)
def i5 : TI D.S := ⟨.int .u8, false, 1, 1, [.int .u8 0], some (.int .u8), []⟩
theorem t5 : TiOk D PP 5 i5 where
  info := ti_of (by kernel_rfl) (by kernel_rfl) (by kernel_rfl) (by kernel_rfl) (by kernel_rfl) (fun h => by cases h)
  desc := Try.underlying5
  agg := by kernel_rfl
  pos := by decide
  und := by kernel_rfl
  byt := by decide
  zlen := rfl
  eqk := .inl rfl
  ty := fun τ h => by cases h; exact ⟨rfl, rfl⟩
  fld := fun fs h => by cases h
  fund := fund_no Try.underlying5 (fun _ h => by cases h)
  aund := aund_no Try.underlying5 (fun _ _ h => by cases h)
def i9 : TI D.S := ⟨.str, false, 1, 16, [.str ByteArray.empty], some (.str), []⟩
theorem t9 : TiOk D PP 9 i9 where
  info := ti_of (by kernel_rfl) (by kernel_rfl) (by kernel_rfl) (by kernel_rfl) (by kernel_rfl) (fun h => by cases h)
  desc := Try.underlying9
  agg := by kernel_rfl
  pos := by decide
  und := by kernel_rfl
  byt := by decide
  zlen := rfl
  eqk := .inl rfl
  ty := fun τ h => by cases h; exact ⟨rfl, rfl⟩
  fld := fun fs h => by cases h
  fund := fund_no Try.underlying9 (fun _ h => by cases h)
  aund := aund_no Try.underlying9 (fun _ _ h => by cases h)
def i20 : TI D.S := ⟨.iface, false, 1, 16, [.nili], none, []⟩
theorem t20 : TiOk D PP 20 i20 where
  info := ti_of (by kernel_rfl) (by kernel_rfl) (by kernel_rfl) (by kernel_rfl) (by kernel_rfl) (fun h => by cases h)
  desc := ⟨_, Try.underlying20⟩
  agg := by kernel_rfl
  pos := by decide
  und := by kernel_rfl
  byt := by decide
  zlen := rfl
  eqk := .inl rfl
  ty := fun τ h => by cases h
  fld := fun fs h => by cases h
  fund := fund_no Try.underlying20 (fun _ h => by cases h)
  aund := aund_no Try.underlying20 (fun _ _ h => by cases h)
def i26 : TI D.S := ⟨.int .i64, false, 1, 8, [.int .i64 0], some (.int .i64), []⟩
theorem t26 : TiOk D PP 26 i26 where
  info := ti_of (by kernel_rfl) (by kernel_rfl) (by kernel_rfl) (by kernel_rfl) (by kernel_rfl) (fun h => by cases h)
  desc := Try.underlying26
  agg := by kernel_rfl
  pos := by decide
  und := by kernel_rfl
  byt := by decide
  zlen := rfl
  eqk := .inl rfl
  ty := fun τ h => by cases h; exact ⟨rfl, rfl⟩
  fld := fun fs h => by cases h
  fund := fund_no Try.underlying26 (fun _ h => by cases h)
  aund := aund_no Try.underlying26 (fun _ _ h => by cases h)
def i41 : TI D.S := ⟨.slice 47, false, 1, 24, [.nils], some (.sl (.st 0)), []⟩
theorem t41 : TiOk D PP 41 i41 where
  info := ti_of (by kernel_rfl) (by kernel_rfl) (by kernel_rfl) (by kernel_rfl) (by kernel_rfl) (fun h => by cases h)
  desc := Try.underlying41
  agg := by kernel_rfl
  pos := by decide
  und := by kernel_rfl
  byt := by decide
  zlen := rfl
  eqk := .inl rfl
  ty := fun τ h => by cases h; exact ⟨rfl, rfl⟩
  fld := fun fs h => by cases h
  fund := fund_no Try.underlying41 (fun _ h => by cases h)
  aund := aund_no Try.underlying41 (fun _ _ h => by cases h)
def i44 : TI D.S := ⟨.int .i8, false, 1, 1, [.int .i8 0], some (.int .i8), []⟩
theorem t44 : TiOk D PP 44 i44 where
  info := ti_of (by kernel_rfl) (by kernel_rfl) (by kernel_rfl) (by kernel_rfl) (by kernel_rfl) (fun h => by cases h)
  desc := Try.underlying44
  agg := by kernel_rfl
  pos := by decide
  und := by kernel_rfl
  byt := by decide
  zlen := rfl
  eqk := .inl rfl
  ty := fun τ h => by cases h; exact ⟨rfl, rfl⟩
  fld := fun fs h => by cases h
  fund := fund_no Try.underlying44 (fun _ h => by cases h)
  aund := aund_no Try.underlying44 (fun _ _ h => by cases h)
def i47 : TI D.S := ⟨.struct [(0, 1, false), (1, 1, false), (2, 1, false), (3, 1, false), (4, 1, false), (5, 1, false), (6, 1, false)], true, 7, 56, [.int .i64 0, .int .i64 0, .int .i64 0, .int .i64 0, .int .i64 0, .int .i64 0, .int .i64 0], some (.st 0), [.int .i64, .int .i64, .int .i64, .int .i64, .int .i64, .int .i64, .int .i64]⟩
theorem t47 : TiOk D PP 47 i47 where
  info := ti_of (by kernel_rfl) (by kernel_rfl) (by kernel_rfl) (by kernel_rfl) (by kernel_rfl) (fun _ => by kernel_rfl)
  desc := ⟨_, Try.underlying47, by kernel_rfl⟩
  agg := by kernel_rfl
  pos := by decide
  und := by kernel_rfl
  byt := by decide
  zlen := rfl
  eqk := .inr ⟨20, by decide, by kernel_rfl, by kernel_rfl, by kernel_rfl⟩
  ty := fun τ h => by cases h; exact ⟨rfl, rfl⟩
  fld := fun fs h => by cases h; decide
  fund := fund_of Try.underlying47 (by kernel_rfl)
  aund := aund_no Try.underlying47 (fun _ _ h => by cases h)
def i57 : TI D.S := ⟨.int .u16, false, 1, 2, [.int .u16 0], some (.int .u16), []⟩
theorem t57 : TiOk D PP 57 i57 where
  info := ti_of (by kernel_rfl) (by kernel_rfl) (by kernel_rfl) (by kernel_rfl) (by kernel_rfl) (fun h => by cases h)
  desc := Try.underlying57
  agg := by kernel_rfl
  pos := by decide
  und := by kernel_rfl
  byt := by decide
  zlen := rfl
  eqk := .inl rfl
  ty := fun τ h => by cases h; exact ⟨rfl, rfl⟩
  fld := fun fs h => by cases h
  fund := fund_no Try.underlying57 (fun _ h => by cases h)
  aund := aund_no Try.underlying57 (fun _ _ h => by cases h)
def i86 : TI D.S := ⟨.slice 5, false, 1, 24, [.nils], some (.sl (.int .u8)), []⟩
theorem t86 : TiOk D PP 86 i86 where
  info := ti_of (by kernel_rfl) (by kernel_rfl) (by kernel_rfl) (by kernel_rfl) (by kernel_rfl) (fun h => by cases h)
  desc := Try.underlying86
  agg := by kernel_rfl
  pos := by decide
  und := by kernel_rfl
  byt := by decide
  zlen := rfl
  eqk := .inl rfl
  ty := fun τ h => by cases h; exact ⟨rfl, rfl⟩
  fld := fun fs h => by cases h
  fund := fund_no Try.underlying86 (fun _ h => by cases h)
  aund := aund_no Try.underlying86 (fun _ _ h => by cases h)
def i90 : TI D.S := ⟨.slice 3, false, 1, 24, [.nils], some (.sl (.int .i64)), []⟩
theorem t90 : TiOk D PP 90 i90 where
  info := ti_of (by kernel_rfl) (by kernel_rfl) (by kernel_rfl) (by kernel_rfl) (by kernel_rfl) (fun h => by cases h)
  desc := Try.underlying90
  agg := by kernel_rfl
  pos := by decide
  und := by kernel_rfl
  byt := by decide
  zlen := rfl
  eqk := .inl rfl
  ty := fun τ h => by cases h; exact ⟨rfl, rfl⟩
  fld := fun fs h => by cases h
  fund := fund_no Try.underlying90 (fun _ h => by cases h)
  aund := aund_no Try.underlying90 (fun _ _ h => by cases h)
def i111 : TI D.S := ⟨.ptr 113, false, 1, 8, [.nilp], none, []⟩
theorem t111 : TiOk D PP 111 i111 where
  info := ti_of (by kernel_rfl) (by kernel_rfl) (by kernel_rfl) (by kernel_rfl) (by kernel_rfl) (fun h => by cases h)
  desc := Try.underlying111
  agg := by kernel_rfl
  pos := by decide
  und := by kernel_rfl
  byt := by decide
  zlen := rfl
  eqk := .inl rfl
  ty := fun τ h => by cases h
  fld := fun fs h => by cases h
  fund := fund_no Try.underlying111 (fun _ h => by cases h)
  aund := aund_no Try.underlying111 (fun _ _ h => by cases h)
def i113 : TI D.S := ⟨.struct [(0, 1, false), (1, 1, false)], true, 2, 32, [.nilp, .nils], none, []⟩
theorem t113 : TiOk D PP 113 i113 where
  info := ti_of (by kernel_rfl) (by kernel_rfl) (by kernel_rfl) (by kernel_rfl) (by kernel_rfl) (fun _ => by kernel_rfl)
  desc := ⟨_, Try.underlying113, by kernel_rfl⟩
  agg := by kernel_rfl
  pos := by decide
  und := by kernel_rfl
  byt := by decide
  zlen := rfl
  eqk := .inl rfl
  ty := fun τ h => by cases h
  fld := fun fs h => by cases h; decide
  fund := fund_of Try.underlying113 (by kernel_rfl)
  aund := aund_no Try.underlying113 (fun _ _ h => by cases h)
def i118 : TI D.S := ⟨.iface, false, 1, 16, [.nili], none, []⟩
theorem t118 : TiOk D PP 118 i118 where
  info := ti_of (by kernel_rfl) (by kernel_rfl) (by kernel_rfl) (by kernel_rfl) (by kernel_rfl) (fun h => by cases h)
  desc := ⟨_, Try.underlying118⟩
  agg := by kernel_rfl
  pos := by decide
  und := by kernel_rfl
  byt := by decide
  zlen := rfl
  eqk := .inl rfl
  ty := fun τ h => by cases h
  fld := fun fs h => by cases h
  fund := fund_no Try.underlying118 (fun _ h => by cases h)
  aund := aund_no Try.underlying118 (fun _ _ h => by cases h)
def i126 : TI D.S := ⟨.int .u32, false, 1, 4, [.int .u32 0], some (.int .u32), []⟩
theorem t126 : TiOk D PP 126 i126 where
  info := ti_of (by kernel_rfl) (by kernel_rfl) (by kernel_rfl) (by kernel_rfl) (by kernel_rfl) (fun h => by cases h)
  desc := Try.underlying126
  agg := by kernel_rfl
  pos := by decide
  und := by kernel_rfl
  byt := by decide
  zlen := rfl
  eqk := .inl rfl
  ty := fun τ h => by cases h; exact ⟨rfl, rfl⟩
  fld := fun fs h => by cases h
  fund := fund_no Try.underlying126 (fun _ h => by cases h)
  aund := aund_no Try.underlying126 (fun _ _ h => by cases h)
def i129 : TI D.S := ⟨.ptr 192, false, 1, 8, [.nilp], none, []⟩
theorem t129 : TiOk D PP 129 i129 where
  info := ti_of (by kernel_rfl) (by kernel_rfl) (by kernel_rfl) (by kernel_rfl) (by kernel_rfl) (fun h => by cases h)
  desc := Try.underlying129
  agg := by kernel_rfl
  pos := by decide
  und := by kernel_rfl
  byt := by decide
  zlen := rfl
  eqk := .inl rfl
  ty := fun τ h => by cases h
  fld := fun fs h => by cases h
  fund := fund_no Try.underlying129 (fun _ h => by cases h)
  aund := aund_no Try.underlying129 (fun _ _ h => by cases h)
def i133 : TI D.S := ⟨.int .i16, false, 1, 2, [.int .i16 0], some (.int .i16), []⟩
theorem t133 : TiOk D PP 133 i133 where
  info := ti_of (by kernel_rfl) (by kernel_rfl) (by kernel_rfl) (by kernel_rfl) (by kernel_rfl) (fun h => by cases h)
  desc := Try.underlying133
  agg := by kernel_rfl
  pos := by decide
  und := by kernel_rfl
  byt := by decide
  zlen := rfl
  eqk := .inl rfl
  ty := fun τ h => by cases h; exact ⟨rfl, rfl⟩
  fld := fun fs h => by cases h
  fund := fund_no Try.underlying133 (fun _ h => by cases h)
  aund := aund_no Try.underlying133 (fun _ _ h => by cases h)
def i137 : TI D.S := ⟨.ptr 139, false, 1, 8, [.nilp], none, []⟩
theorem t137 : TiOk D PP 137 i137 where
  info := ti_of (by kernel_rfl) (by kernel_rfl) (by kernel_rfl) (by kernel_rfl) (by kernel_rfl) (fun h => by cases h)
  desc := Try.underlying137
  agg := by kernel_rfl
  pos := by decide
  und := by kernel_rfl
  byt := by decide
  zlen := rfl
  eqk := .inl rfl
  ty := fun τ h => by cases h
  fld := fun fs h => by cases h
  fund := fund_no Try.underlying137 (fun _ h => by cases h)
  aund := aund_no Try.underlying137 (fun _ _ h => by cases h)
def i139 : TI D.S := ⟨.struct [(0, 1, false), (1, 1, false), (2, 1, false)], true, 3, 32, [.str ByteArray.empty, .int .i64 0, .bool false], some (.st 2), [.str, .int .i64, .bool]⟩
theorem t139 : TiOk D PP 139 i139 where
  info := ti_of (by kernel_rfl) (by kernel_rfl) (by kernel_rfl) (by kernel_rfl) (by kernel_rfl) (fun _ => by kernel_rfl)
  desc := ⟨_, Try.underlying139, by kernel_rfl⟩
  agg := by kernel_rfl
  pos := by decide
  und := by kernel_rfl
  byt := by decide
  zlen := rfl
  eqk := .inr ⟨20, by decide, by kernel_rfl, by kernel_rfl, by kernel_rfl⟩
  ty := fun τ h => by cases h; exact ⟨rfl, rfl⟩
  fld := fun fs h => by cases h; decide
  fund := fund_of Try.underlying139 (by kernel_rfl)
  aund := aund_no Try.underlying139 (fun _ _ h => by cases h)
def i190 : TI D.S := ⟨.ptr 5, false, 1, 8, [.nilp], none, []⟩
theorem t190 : TiOk D PP 190 i190 where
  info := ti_of (by kernel_rfl) (by kernel_rfl) (by kernel_rfl) (by kernel_rfl) (by kernel_rfl) (fun h => by cases h)
  desc := Try.underlying190
  agg := by kernel_rfl
  pos := by decide
  und := by kernel_rfl
  byt := by decide
  zlen := rfl
  eqk := .inl rfl
  ty := fun τ h => by cases h
  fld := fun fs h => by cases h
  fund := fund_no Try.underlying190 (fun _ h => by cases h)
  aund := aund_no Try.underlying190 (fun _ _ h => by cases h)
def i192 : TI D.S := ⟨.struct [(0, 1, false), (1, 1, false), (2, 1, false)], true, 3, 32, [.str ByteArray.empty, .int .i64 0, .bool false], some (.st 1), [.str, .int .i64, .bool]⟩
theorem t192 : TiOk D PP 192 i192 where
  info := ti_of (by kernel_rfl) (by kernel_rfl) (by kernel_rfl) (by kernel_rfl) (by kernel_rfl) (fun _ => by kernel_rfl)
  desc := ⟨_, Try.underlying192, by kernel_rfl⟩
  agg := by kernel_rfl
  pos := by decide
  und := by kernel_rfl
  byt := by decide
  zlen := rfl
  eqk := .inr ⟨20, by decide, by kernel_rfl, by kernel_rfl, by kernel_rfl⟩
  ty := fun τ h => by cases h; exact ⟨rfl, rfl⟩
  fld := fun fs h => by cases h; decide
  fund := fund_of Try.underlying192 (by kernel_rfl)
  aund := aund_no Try.underlying192 (fun _ _ h => by cases h)
def i199 : TI D.S := ⟨.int .u64, false, 1, 8, [.int .u64 0], some (.int .u64), []⟩
theorem t199 : TiOk D PP 199 i199 where
  info := ti_of (by kernel_rfl) (by kernel_rfl) (by kernel_rfl) (by kernel_rfl) (by kernel_rfl) (fun h => by cases h)
  desc := Try.underlying199
  agg := by kernel_rfl
  pos := by decide
  und := by kernel_rfl
  byt := by decide
  zlen := rfl
  eqk := .inl rfl
  ty := fun τ h => by cases h; exact ⟨rfl, rfl⟩
  fld := fun fs h => by cases h
  fund := fund_no Try.underlying199 (fun _ h => by cases h)
  aund := aund_no Try.underlying199 (fun _ _ h => by cases h)
def i209 : TI D.S := ⟨.ptr 47, false, 1, 8, [.nilp], none, []⟩
theorem t209 : TiOk D PP 209 i209 where
  info := ti_of (by kernel_rfl) (by kernel_rfl) (by kernel_rfl) (by kernel_rfl) (by kernel_rfl) (fun h => by cases h)
  desc := Try.underlying209
  agg := by kernel_rfl
  pos := by decide
  und := by kernel_rfl
  byt := by decide
  zlen := rfl
  eqk := .inl rfl
  ty := fun τ h => by cases h
  fld := fun fs h => by cases h
  fund := fund_no Try.underlying209 (fun _ h => by cases h)
  aund := aund_no Try.underlying209 (fun _ _ h => by cases h)
def i228 : TI D.S := ⟨.int .u64, false, 1, 8, [.int .u64 0], some (.int .u64), []⟩
theorem t228 : TiOk D PP 228 i228 where
  info := ti_of (by kernel_rfl) (by kernel_rfl) (by kernel_rfl) (by kernel_rfl) (by kernel_rfl) (fun h => by cases h)
  desc := Try.underlying228
  agg := by kernel_rfl
  pos := by decide
  und := by kernel_rfl
  byt := by decide
  zlen := rfl
  eqk := .inl rfl
  ty := fun τ h => by cases h; exact ⟨rfl, rfl⟩
  fld := fun fs h => by cases h
  fund := fund_no Try.underlying228 (fun _ h => by cases h)
  aund := aund_no Try.underlying228 (fun _ _ h => by cases h)
theorem D_ti : ∀ t i, (t, i) ∈ D.ti → TiOk D PP t i := fun t i h => by
  have h : (t, i) ∈ [(3, i3), (4, i4), (5, i5), (9, i9), (20, i20), (26, i26), (41, i41), (44, i44), (47, i47), (57, i57), (86, i86), (90, i90), (111, i111), (113, i113), (118, i118), (126, i126), (129, i129), (133, i133), (137, i137), (139, i139), (190, i190), (192, i192), (199, i199), (209, i209), (228, i228)] := h
  simp only [List.mem_cons, List.not_mem_nil, or_false, Prod.mk.injEq] at h
  rcases h with ⟨rfl, rfl⟩ | ⟨rfl, rfl⟩ | ⟨rfl, rfl⟩ | ⟨rfl, rfl⟩ | ⟨rfl, rfl⟩ | ⟨rfl, rfl⟩ | ⟨rfl, rfl⟩ | ⟨rfl, rfl⟩ | ⟨rfl, rfl⟩ | ⟨rfl, rfl⟩ | ⟨rfl, rfl⟩ | ⟨rfl, rfl⟩ | ⟨rfl, rfl⟩ | ⟨rfl, rfl⟩ | ⟨rfl, rfl⟩ | ⟨rfl, rfl⟩ | ⟨rfl, rfl⟩ | ⟨rfl, rfl⟩ | ⟨rfl, rfl⟩ | ⟨rfl, rfl⟩ | ⟨rfl, rfl⟩ | ⟨rfl, rfl⟩ | ⟨rfl, rfl⟩ | ⟨rfl, rfl⟩ | ⟨rfl, rfl⟩
  · exact t3
  · exact t4
  · exact t5
  · exact t9
  · exact t20
  · exact t26
  · exact t41
  · exact t44
  · exact t47
  · exact t57
  · exact t86
  · exact t90
  · exact t111
  · exact t113
  · exact t118
  · exact t126
  · exact t129
  · exact t133
  · exact t137
  · exact t139
  · exact t190
  · exact t192
  · exact t199
  · exact t209
  · exact t228
theorem lw : Lawful D PP where
  len := D_len
  dec := D_dec
  pure := D_pure
  ti := D_ti
  mixed := by kernel_rfl
end Go.Proofs.Ytalghbndblgndaa.Ev
