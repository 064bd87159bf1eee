/- Printed by a program of this claim: the seat's types, as they are told by value; that the table says what the program says. -/
import Derived.Test.YtkpjeihgigmnkaaProg
import Derived.Test.YtkpjeihgigmnkaaEvAd
import Derived.KernelRfl
import Derived.Lib.TrailingZeros
namespace Go.Proofs.Ytkpjeihgigmnkaa.Ev
open Go
set_option linter.unusedVariables false
structure S23 where
  mk ::
  f0 : Int
  f1 : Int
structure S25 where
  mk ::
  f0 : Int
  f1 : Bool
  f2 : S23
  f3 : S23
  f4 : S23
structure S30 where
  mk ::
  f0 : Int
  f1 : Int
  f2 : Int
structure S37 where
  mk ::
  f0 : Int
  f1 : Int
  f2 : Int
structure S50 where
  mk ::
  f0 : Int
  f1 : Int
structure S73 where
  mk ::
  f0 : Bool
  f1 : List (Int)
structure S59 where
  mk ::
  f0 : Int
  f1 : Int
structure Ih where
  T : Type
  d : T
def tabT (n : Nat) : Ih := match n with
  | 0 => ⟨S23, ⟨0, 0⟩⟩
  | 1 => ⟨S25, ⟨0, false, ⟨0, 0⟩, ⟨0, 0⟩, ⟨0, 0⟩⟩⟩
  | 2 => ⟨S30, ⟨0, 0, 0⟩⟩
  | 3 => ⟨S37, ⟨0, 0, 0⟩⟩
  | 4 => ⟨S50, ⟨0, 0⟩⟩
  | 5 => ⟨S73, ⟨false, []⟩⟩
  | 6 => ⟨S59, ⟨0, 0⟩⟩
  | _ => ⟨Unit, ()⟩
def SS (n : Nat) : Type := (tabT n).T
def decS (t : Ty) (c : C SS) : Option (List (T SS t)) := match c with
  | .lst t' l => match Ty.eq? t' t with | some ⟨h⟩ => some (h ▸ l) | none => none
  | .nils => some []
  | .emp => some []
  | _ => none
def dec0 (l : List (C SS)) : Option S23 := match l with | [.int .i64 a0, .int .i64 a1] => some (⟨a0, a1⟩ : S23) | _ => none
def dec1 (l : List (C SS)) : Option S25 := match l with | [.int .i64 a0, .bool a1, .int .i64 a2, .int .i64 a3, .int .i64 a4, .int .i64 a5, .int .i64 a6, .int .i64 a7] => some (⟨a0, a1, ⟨a2, a3⟩, ⟨a4, a5⟩, ⟨a6, a7⟩⟩ : S25) | _ => none
def dec2 (l : List (C SS)) : Option S30 := match l with | [.int .i64 a0, .int .i64 a1, .int .i64 a2] => some (⟨a0, a1, a2⟩ : S30) | _ => none
def dec3 (l : List (C SS)) : Option S37 := match l with | [.int .i64 a0, .int .i64 a1, .int .i64 a2] => some (⟨a0, a1, a2⟩ : S37) | _ => none
def dec4 (l : List (C SS)) : Option S50 := match l with | [.int .u64 a0, .int .u64 a1] => some (⟨a0, a1⟩ : S50) | _ => none
def dec5 (l : List (C SS)) : Option S73 := match l with | [.bool a0, a1] => ((match decS (.int .u64) a1 with | some ba1 => some (⟨a0, ba1⟩ : S73) | none => none)) | _ => none
def dec6 (l : List (C SS)) : Option S59 := match l with | [.int .i64 a0, .int .i64 a1] => some (⟨a0, a1⟩ : S59) | _ => none
def D : Tys where
  S := SS
  enc := fun n => match n with
    | 0 => fun (x : S23) => [.int .i64 x.f0, .int .i64 x.f1]
    | 1 => fun (x : S25) => [.int .i64 x.f0, .bool x.f1, .int .i64 x.f2.f0, .int .i64 x.f2.f1, .int .i64 x.f3.f0, .int .i64 x.f3.f1, .int .i64 x.f4.f0, .int .i64 x.f4.f1]
    | 2 => fun (x : S30) => [.int .i64 x.f0, .int .i64 x.f1, .int .i64 x.f2]
    | 3 => fun (x : S37) => [.int .i64 x.f0, .int .i64 x.f1, .int .i64 x.f2]
    | 4 => fun (x : S50) => [.int .u64 x.f0, .int .u64 x.f1]
    | 5 => fun (x : S73) => [.bool x.f0, .lst (.int .u64) x.f1]
    | 6 => fun (x : S59) => [.int .i64 x.f0, .int .i64 x.f1]
    | _ => fun _ => []
  dec := fun n => match n with
    | 0 => dec0
    | 1 => dec1
    | 2 => dec2
    | 3 => dec3
    | 4 => dec4
    | 5 => dec5
    | 6 => dec6
    | _ => fun _ => none
  dfl := fun n => (tabT n).d
  siz := fun n => match n with | 0 => 2 | 1 => 8 | 2 => 3 | 3 => 3 | 4 => 2 | 5 => 2 | 6 => 2 | _ => 0
  ti := [(2, ⟨.int .i64, false, 1, 8, [.int .i64 0], some (.int .i64), []⟩),
    (3, ⟨.int .i64, false, 1, 8, [.int .i64 0], some (.int .i64), []⟩),
    (4, ⟨.bool, false, 1, 1, [.bool false], some (.bool), []⟩),
    (5, ⟨.int .u8, false, 1, 1, [.int .u8 0], some (.int .u8), []⟩),
    (9, ⟨.str, false, 1, 16, [.str ByteArray.empty], some (.str), []⟩),
    (23, ⟨.struct [(0, 1, false), (1, 1, false)], true, 2, 16, [.int .i64 0, .int .i64 0], some (.st 0), [.int .i64, .int .i64]⟩),
    (25, ⟨.struct [(0, 1, false), (1, 1, false), (2, 2, true), (4, 2, true), (6, 2, true)], true, 8, 64, [.int .i64 0, .bool false, .int .i64 0, .int .i64 0, .int .i64 0, .int .i64 0, .int .i64 0, .int .i64 0], some (.st 1), [.int .i64, .bool, .int .i64, .int .i64, .int .i64, .int .i64, .int .i64, .int .i64]⟩),
    (27, ⟨.int .i64, false, 1, 8, [.int .i64 0], some (.int .i64), []⟩),
    (30, ⟨.array 3 1 false, true, 3, 24, [.int .i64 0, .int .i64 0, .int .i64 0], some (.st 2), [.int .i64, .int .i64, .int .i64]⟩),
    (37, ⟨.struct [(0, 1, false), (1, 1, false), (2, 1, false)], true, 3, 24, [.int .i64 0, .int .i64 0, .int .i64 0], some (.st 3), [.int .i64, .int .i64, .int .i64]⟩),
    (44, ⟨.slice 2, false, 1, 24, [.nils], some (.sl (.int .i64)), []⟩),
    (47, ⟨.func, false, 1, 8, [.nilf], none, []⟩),
    (48, ⟨.int .u64, false, 1, 8, [.int .u64 0], some (.int .u64), []⟩),
    (50, ⟨.struct [(0, 1, false), (1, 1, false)], true, 2, 16, [.int .u64 0, .int .u64 0], some (.st 4), [.int .u64, .int .u64]⟩),
    (56, ⟨.slice 73, false, 1, 24, [.nils], some (.sl (.st 5)), []⟩),
    (59, ⟨.struct [(0, 1, false), (1, 1, false)], true, 2, 16, [.int .i64 0, .int .i64 0], some (.st 6), [.int .i64, .int .i64]⟩),
    (65, ⟨.int .u64, false, 1, 8, [.int .u64 0], some (.int .u64), []⟩),
    (71, ⟨.slice 48, false, 1, 24, [.nils], some (.sl (.int .u64)), []⟩),
    (73, ⟨.struct [(0, 1, false), (1, 1, false)], true, 2, 32, [.bool false, .nils], some (.st 5), []⟩),
    (80, ⟨.slice 56, false, 1, 24, [.nils], some (.sl (.sl (.st 5))), []⟩),
    (83, ⟨.slice 23, false, 1, 24, [.nils], some (.sl (.st 0)), []⟩),
    (85, ⟨.slice 3, false, 1, 24, [.nils], some (.sl (.int .i64)), []⟩)]
  mode := [(19, ⟨[.val], false, none⟩), (10, ⟨[.val, .val], false, none⟩), (32, ⟨[.val], false, none⟩), (33, ⟨[.val, .val, .val], false, none⟩), (20, ⟨[.val, .val, .val], false, none⟩), (11, ⟨[.val, .val, .val], false, none⟩), (12, ⟨[.val, .val], false, none⟩), (21, ⟨[.val, .ref], false, none⟩), (24, ⟨[.val], false, none⟩), (37, ⟨[.val, .val], false, none⟩), (23, ⟨[.val, .val], false, none⟩), (34, ⟨[.val, .val], false, none⟩), (49, ⟨[.val], false, none⟩), (35, ⟨[.val], false, none⟩), (36, ⟨[.val, .val], false, none⟩), (22, ⟨[.val, .val], false, none⟩), (50, ⟨[.val], false, none⟩), (39, ⟨[.val, .val], false, none⟩), (38, ⟨[.val], false, none⟩), (25, ⟨[.val, .val], false, none⟩), (13, ⟨[.val, .val], false, none⟩), (5, ⟨[.val, .val], false, none⟩), (6, ⟨[.val, .val], false, none⟩), (4, ⟨[], false, none⟩), (14, ⟨[.val], false, none⟩), (26, ⟨[.val], false, none⟩), (27, ⟨[.val], false, none⟩), (15, ⟨[.val], false, none⟩), (7, ⟨[.val, .val], false, none⟩), (16, ⟨[.val, .val, .val], false, none⟩), (17, ⟨[.val], false, none⟩), (9, ⟨[.val, .val], false, none⟩), (65, ⟨[.val], true, none⟩), (51, ⟨[.val, .val], true, none⟩), (40, ⟨[.val], true, none⟩), (44, ⟨[.val], false, none⟩), (41, ⟨[.val], true, none⟩), (28, ⟨[.val], true, none⟩), (66, ⟨[.val, .val], false, none⟩), (55, ⟨[.val, .val], true, none⟩), (67, ⟨[.val], true, none⟩), (69, ⟨[.val, .val], true, none⟩), (70, ⟨[.val, .val], false, none⟩), (71, ⟨[.val, .val], true, none⟩), (60, ⟨[.val, .val], true, none⟩), (56, ⟨[.val, .val], true, none⟩), (68, ⟨[.val, .val], true, none⟩), (57, ⟨[.val, .val], true, none⟩), (58, ⟨[.val, .val], true, none⟩), (59, ⟨[.val, .val], true, none⟩), (43, ⟨[.val, .val, .val], true, none⟩), (53, ⟨[], false, none⟩), (45, ⟨[.val, .val], true, none⟩), (73, ⟨[.val, .val], false, none⟩), (72, ⟨[.val, .val], true, none⟩), (64, ⟨[.val, .val], true, none⟩), (54, ⟨[], false, none⟩), (62, ⟨[.val], true, none⟩), (52, ⟨[.val], true, none⟩), (30, ⟨[.val, .val], false, none⟩), (61, ⟨[.val], true, none⟩), (63, ⟨[.val, .val], true, none⟩), (46, ⟨[.val], true, none⟩), (48, ⟨[.val, .val], false, none⟩), (42, ⟨[.val], false, none⟩), (29, ⟨[.val, .val, .val], false, none⟩), (47, ⟨[.val, .val, .val], true, none⟩), (31, ⟨[.val, .val, .val], false, none⟩), (18, ⟨[.val, .val], false, none⟩), (8, ⟨[.val, .val], false, none⟩), (3, ⟨[.val, .val], false, none⟩)]
  rowt := fun n => Nat.beq n 30
def grd {R : Type} (b : Bool) (k : Option R) : Option R := cond b k none
abbrev wr (k : IntKind) (n : Int) : Int := k.wrap n
def z0 : S23 := ⟨0, 0⟩
def z1 : S25 := ⟨0, false, ⟨0, 0⟩, ⟨0, 0⟩, ⟨0, 0⟩⟩
def z2 : S30 := ⟨0, 0, 0⟩
def z3 : S37 := ⟨0, 0, 0⟩
def z4 : S50 := ⟨0, 0⟩
def z5 : S73 := ⟨false, []⟩
def z6 : S59 := ⟨0, 0⟩
noncomputable abbrev PP : Program := Try.prog
theorem D_len : ∀ n x, (D.enc n x).length = D.siz n
  | 0, x => rfl
  | 1, x => rfl
  | 2, x => rfl
  | 3, x => rfl
  | 4, x => rfl
  | 5, x => rfl
  | 6, x => rfl
  | n + 7, x => rfl
def plainC : C SS → Bool | .int _ _ | .bool _ | .str _ | .lst _ _ | .nilp | .fptr _ _ _ _ => true | _ => false
theorem plain_ok {c : C SS} (h : plainC c = true) (w : World) (F : Nat → Prop) (hh : Hp D) (β : Nat → Option Loc) (v : Value) : RC D w F hh β c v ↔ RP D w F c v := by
  cases c <;> first | exact Iff.rfl | (simp [plainC] at h)
theorem D_plain : ∀ n x, (D.enc n x).all plainC = true
  | 0, x => rfl
  | 1, x => rfl
  | 2, x => rfl
  | 3, x => rfl
  | 4, x => rfl
  | 5, x => rfl
  | 6, x => rfl
  | n + 7, x => rfl
theorem D_pure : ∀ n x c, c ∈ D.enc n x → ∀ w F h β v, RC D w F h β c v ↔ RP D w F c v := fun n x c hc w F h β v => plain_ok (List.all_eq_true.mp (D_plain n x) c hc) w F h β v
theorem decS_eq (t : Ty) (c : C D.S) : decS t c = decC D (.sl t) c := by cases c <;> rfl
theorem decS_le {t : Ty} {c : C D.S} {l : List (T D.S t)} (h : decS t c = some l) : Ceq c (.lst t l) := decC_eq (D := D) (t := .sl t) (by rw [← decS_eq]; exact h) (fun n e => by cases e) _ rfl
theorem CL0 : CQ (D := D) [] [] := CQ.rfl' _
theorem CL1 {c c' : C D.S} {l l' : List (C D.S)} (h : Ceq c c') (t : CQ l l') : CQ (c :: l) (c' :: l') := ⟨by simp [t.1], fun i x x' h1 h2 => by
  cases i with
  | zero => simp at h1 h2; subst h1; subst h2; exact h
  | succ i => simp at h1 h2; exact t.2 i x x' h1 h2⟩
theorem D_dec0 (cs : List (C SS)) (x : S23) (h : dec0 cs = some x) : CQ (D := D) cs (D.enc 0 x) := by
  unfold dec0 at h
  split at h
  · obtain rfl := Option.some.inj h; exact CQ.rfl' _
  · cases h
theorem D_dec1 (cs : List (C SS)) (x : S25) (h : dec1 cs = some x) : CQ (D := D) cs (D.enc 1 x) := by
  unfold dec1 at h
  split at h
  · obtain rfl := Option.some.inj h; exact CQ.rfl' _
  · cases h
theorem D_dec2 (cs : List (C SS)) (x : S30) (h : dec2 cs = some x) : CQ (D := D) cs (D.enc 2 x) := by
  unfold dec2 at h
  split at h
  · obtain rfl := Option.some.inj h; exact CQ.rfl' _
  · cases h
theorem D_dec3 (cs : List (C SS)) (x : S37) (h : dec3 cs = some x) : CQ (D := D) cs (D.enc 3 x) := by
  unfold dec3 at h
  split at h
  · obtain rfl := Option.some.inj h; exact CQ.rfl' _
  · cases h
theorem D_dec4 (cs : List (C SS)) (x : S50) (h : dec4 cs = some x) : CQ (D := D) cs (D.enc 4 x) := by
  unfold dec4 at h
  split at h
  · obtain rfl := Option.some.inj h; exact CQ.rfl' _
  · cases h
theorem D_dec5 (cs : List (C SS)) (x : S73) (h : dec5 cs = some x) : CQ (D := D) cs (D.enc 5 x) := by
  unfold dec5 at h
  split at h
  · split at h
    · obtain rfl := Option.some.inj h; exact CL1 (Ceq.rfl' _) (CL1 (decS_le (by assumption)) (CL0))
    · cases h
  · cases h
theorem D_dec6 (cs : List (C SS)) (x : S59) (h : dec6 cs = some x) : CQ (D := D) cs (D.enc 6 x) := by
  unfold dec6 at h
  split at h
  · obtain rfl := Option.some.inj h; exact CQ.rfl' _
  · cases h
theorem D_dec : ∀ n cs x, D.dec n cs = some x → cs.length = D.siz n ∧ ∀ (j : Nat) c c', cs[j]? = some c → (D.enc n x)[j]? = some c' → Ceq c c'
  | 0, cs, x, h => ⟨(D_dec0 cs x h).1.trans (D_len 0 x), (D_dec0 cs x h).2⟩
  | 1, cs, x, h => ⟨(D_dec1 cs x h).1.trans (D_len 1 x), (D_dec1 cs x h).2⟩
  | 2, cs, x, h => ⟨(D_dec2 cs x h).1.trans (D_len 2 x), (D_dec2 cs x h).2⟩
  | 3, cs, x, h => ⟨(D_dec3 cs x h).1.trans (D_len 3 x), (D_dec3 cs x h).2⟩
  | 4, cs, x, h => ⟨(D_dec4 cs x h).1.trans (D_len 4 x), (D_dec4 cs x h).2⟩
  | 5, cs, x, h => ⟨(D_dec5 cs x h).1.trans (D_len 5 x), (D_dec5 cs x h).2⟩
  | 6, cs, x, h => ⟨(D_dec6 cs x h).1.trans (D_len 6 x), (D_dec6 cs x h).2⟩
  | n + 7, cs, x, h => by cases h
theorem ti_of {t : TypeId} {i : TI D.S} (hs : (PP.info? t).isSome = true) (h1 : ((PP.info? t).get hs).size = i.size) (h2 : ((PP.info? t).get hs).bytes = i.bytes) (hz : ((PP.info? t).get hs).zero.isSome = true)
    (h3 : (((PP.info? t).get hs).zero.get hz).cells.toList.map some = i.zero.map valOf) (h4 : i.agg = true → ((PP.info? t).get hs).zero.get hz = .agg (((PP.info? t).get hs).zero.get hz).cells) :
    ∃ j, PP.info? t = some j ∧ j.size = i.size ∧ j.bytes = i.bytes ∧ ∃ z, j.zero = some z ∧ z.cells.toList.map some = i.zero.map valOf ∧ (i.agg = true → z = .agg z.cells) :=
  ⟨_, (Option.some_get hs).symm, h1, h2, _, (Option.some_get hz).symm, h3, h4⟩
theorem fund_of {u : Option TypeDesc} {fl0 : Array Field} (h0 : u = some (.struct fl0)) (ha : (fl0.toList.all fun fd => (PP.underlying fd.type).isSome) = true) :
    ∀ fl (fd : Field) (f : Nat), u = some (.struct fl) → fl[f]? = some fd → (PP.underlying fd.type).isSome := fun fl fd f h hf => by
  obtain rfl := TypeDesc.struct.inj (Option.some.inj (h0.symm.trans h))
  exact List.all_eq_true.mp ha fd (by rw [Array.mem_toList_iff]; exact Array.mem_of_getElem? hf)
theorem aund_of {u : Option TypeDesc} {n0 : Nat} {e0 : TypeId} (h0 : u = some (.array n0 e0)) (ha : (PP.underlying e0).isSome = true) :
    ∀ n e, u = some (.array n e) → (PP.underlying e).isSome := fun n e h => by
  obtain ⟨h1, rfl⟩ := TypeDesc.array.inj (Option.some.inj (h0.symm.trans h))
  exact ha
theorem fund_no {u : Option TypeDesc} {d : TypeDesc} (h0 : u = some d) (hd : ∀ fl, d ≠ .struct fl) :
    ∀ fl (fd : Field) (f : Nat), u = some (.struct fl) → fl[f]? = some fd → (PP.underlying fd.type).isSome := fun fl fd f h hf => by
  exact absurd (Option.some.inj (h0.symm.trans h)) (hd fl)
theorem aund_no {u : Option TypeDesc} {d : TypeDesc} (h0 : u = some d) (hd : ∀ n e, d ≠ .array n e) :
    ∀ n e, u = some (.array n e) → (PP.underlying e).isSome := fun n e h => by
  exact absurd (Option.some.inj (h0.symm.trans h)) (hd n e)
def i2 : TI D.S := ⟨.int .i64, false, 1, 8, [.int .i64 0], some (.int .i64), []⟩
theorem t2 : TiOk D PP 2 i2 where
  info := ti_of (by kernel_rfl) (by kernel_rfl) (by kernel_rfl) (by kernel_rfl) (by kernel_rfl) (fun h => by cases h)
  desc := Try.underlying2
  agg := by kernel_rfl
  pos := by decide
  und := by kernel_rfl
  byt := by decide
  zlen := rfl
  eqk := .inl rfl
  ty := fun τ h => by cases h; exact ⟨rfl, rfl⟩
  fld := fun fs h => by cases h
  fund := fund_no Try.underlying2 (fun _ h => by cases h)
  aund := aund_no Try.underlying2 (fun _ _ h => by cases h)
def i3 : TI D.S := ⟨.int .i64, false, 1, 8, [.int .i64 0], some (.int .i64), []⟩
theorem t3 : TiOk D PP 3 i3 where
  info := ti_of (by kernel_rfl) (by kernel_rfl) (by kernel_rfl) (by kernel_rfl) (by kernel_rfl) (fun h => by cases h)
  desc := Try.underlying3
  agg := by kernel_rfl
  pos := by decide
  und := by kernel_rfl
  byt := by decide
  zlen := rfl
  eqk := .inl rfl
  ty := fun τ h => by cases h; exact ⟨rfl, rfl⟩
  fld := fun fs h => by cases h
  fund := fund_no Try.underlying3 (fun _ h => by cases h)
  aund := aund_no Try.underlying3 (fun _ _ h => by cases h)
def i4 : TI D.S := ⟨.bool, false, 1, 1, [.bool false], some (.bool), []⟩
theorem t4 : TiOk D PP 4 i4 where
  info := ti_of (by kernel_rfl) (by kernel_rfl) (by kernel_rfl) (by kernel_rfl) (by kernel_rfl) (fun h => by cases h)
  desc := Try.underlying4
  agg := by kernel_rfl
  pos := by decide
  und := by kernel_rfl
  byt := by decide
  zlen := rfl
  eqk := .inl rfl
  ty := fun τ h => by cases h; exact ⟨rfl, rfl⟩
  fld := fun fs h => by cases h
  fund := fund_no Try.underlying4 (fun _ h => by cases h)
  aund := aund_no Try.underlying4 (fun _ _ h => by cases h)
def i5 : TI D.S := ⟨.int .u8, false, 1, 1, [.int .u8 0], some (.int .u8), []⟩
theorem t5 : TiOk D PP 5 i5 where
  info := ti_of (by kernel_rfl) (by kernel_rfl) (by kernel_rfl) (by kernel_rfl) (by kernel_rfl) (fun h => by cases h)
  desc := Try.underlying5
  agg := by kernel_rfl
  pos := by decide
  und := by kernel_rfl
  byt := by decide
  zlen := rfl
  eqk := .inl rfl
  ty := fun τ h => by cases h; exact ⟨rfl, rfl⟩
  fld := fun fs h => by cases h
  fund := fund_no Try.underlying5 (fun _ h => by cases h)
  aund := aund_no Try.underlying5 (fun _ _ h => by cases h)
def i9 : TI D.S := ⟨.str, false, 1, 16, [.str ByteArray.empty], some (.str), []⟩
theorem t9 : TiOk D PP 9 i9 where
  info := ti_of (by kernel_rfl) (by kernel_rfl) (by kernel_rfl) (by kernel_rfl) (by kernel_rfl) (fun h => by cases h)
  desc := Try.underlying9
  agg := by kernel_rfl
  pos := by decide
  und := by kernel_rfl
  byt := by decide
  zlen := rfl
  eqk := .inl rfl
  ty := fun τ h => by cases h; exact ⟨rfl, rfl⟩
  fld := fun fs h => by cases h
  fund := fund_no Try.underlying9 (fun _ h => by cases h)
  aund := aund_no Try.underlying9 (fun _ _ h => by cases h)
def i23 : TI D.S := ⟨.struct [(0, 1, false), (1, 1, false)], true, 2, 16, [.int .i64 0, .int .i64 0], some (.st 0), [.int .i64, .int .i64]⟩
theorem t23 : TiOk D PP 23 i23 where
  info := ti_of (by kernel_rfl) (by kernel_rfl) (by kernel_rfl) (by kernel_rfl) (by kernel_rfl) (fun _ => by kernel_rfl)
  desc := ⟨_, Try.underlying23, by kernel_rfl⟩
  agg := by kernel_rfl
  pos := by decide
  und := by kernel_rfl
  byt := by decide
  zlen := rfl
  eqk := .inr ⟨20, by decide, by kernel_rfl, by kernel_rfl, by kernel_rfl⟩
  ty := fun τ h => by cases h; exact ⟨rfl, rfl⟩
  fld := fun fs h => by cases h; decide
  fund := fund_of Try.underlying23 (by kernel_rfl)
  aund := aund_no Try.underlying23 (fun _ _ h => by cases h)
def i25 : TI D.S := ⟨.struct [(0, 1, false), (1, 1, false), (2, 2, true), (4, 2, true), (6, 2, true)], true, 8, 64, [.int .i64 0, .bool false, .int .i64 0, .int .i64 0, .int .i64 0, .int .i64 0, .int .i64 0, .int .i64 0], some (.st 1), [.int .i64, .bool, .int .i64, .int .i64, .int .i64, .int .i64, .int .i64, .int .i64]⟩
theorem t25 : TiOk D PP 25 i25 where
  info := ti_of (by kernel_rfl) (by kernel_rfl) (by kernel_rfl) (by kernel_rfl) (by kernel_rfl) (fun _ => by kernel_rfl)
  desc := ⟨_, Try.underlying25, by kernel_rfl⟩
  agg := by kernel_rfl
  pos := by decide
  und := by kernel_rfl
  byt := by decide
  zlen := rfl
  eqk := .inr ⟨20, by decide, by kernel_rfl, by kernel_rfl, by kernel_rfl⟩
  ty := fun τ h => by cases h; exact ⟨rfl, rfl⟩
  fld := fun fs h => by cases h; decide
  fund := fund_of Try.underlying25 (by kernel_rfl)
  aund := aund_no Try.underlying25 (fun _ _ h => by cases h)
def i27 : TI D.S := ⟨.int .i64, false, 1, 8, [.int .i64 0], some (.int .i64), []⟩
theorem t27 : TiOk D PP 27 i27 where
  info := ti_of (by kernel_rfl) (by kernel_rfl) (by kernel_rfl) (by kernel_rfl) (by kernel_rfl) (fun h => by cases h)
  desc := Try.underlying27
  agg := by kernel_rfl
  pos := by decide
  und := by kernel_rfl
  byt := by decide
  zlen := rfl
  eqk := .inl rfl
  ty := fun τ h => by cases h; exact ⟨rfl, rfl⟩
  fld := fun fs h => by cases h
  fund := fund_no Try.underlying27 (fun _ h => by cases h)
  aund := aund_no Try.underlying27 (fun _ _ h => by cases h)
def i30 : TI D.S := ⟨.array 3 1 false, true, 3, 24, [.int .i64 0, .int .i64 0, .int .i64 0], some (.st 2), [.int .i64, .int .i64, .int .i64]⟩
theorem t30 : TiOk D PP 30 i30 where
  info := ti_of (by kernel_rfl) (by kernel_rfl) (by kernel_rfl) (by kernel_rfl) (by kernel_rfl) (fun _ => by kernel_rfl)
  desc := ⟨_, Try.underlying30, by kernel_rfl, by kernel_rfl, by kernel_rfl, by decide⟩
  agg := by kernel_rfl
  pos := by decide
  und := by kernel_rfl
  byt := by decide
  zlen := rfl
  eqk := .inr ⟨20, by decide, by kernel_rfl, by kernel_rfl, by kernel_rfl⟩
  ty := fun τ h => by cases h; exact ⟨rfl, rfl⟩
  fld := fun fs h => by cases h
  fund := fund_no Try.underlying30 (fun _ h => by cases h)
  aund := aund_of Try.underlying30 (by kernel_rfl)
def i37 : TI D.S := ⟨.struct [(0, 1, false), (1, 1, false), (2, 1, false)], true, 3, 24, [.int .i64 0, .int .i64 0, .int .i64 0], some (.st 3), [.int .i64, .int .i64, .int .i64]⟩
theorem t37 : TiOk D PP 37 i37 where
  info := ti_of (by kernel_rfl) (by kernel_rfl) (by kernel_rfl) (by kernel_rfl) (by kernel_rfl) (fun _ => by kernel_rfl)
  desc := ⟨_, Try.underlying37, by kernel_rfl⟩
  agg := by kernel_rfl
  pos := by decide
  und := by kernel_rfl
  byt := by decide
  zlen := rfl
  eqk := .inr ⟨20, by decide, by kernel_rfl, by kernel_rfl, by kernel_rfl⟩
  ty := fun τ h => by cases h; exact ⟨rfl, rfl⟩
  fld := fun fs h => by cases h; decide
  fund := fund_of Try.underlying37 (by kernel_rfl)
  aund := aund_no Try.underlying37 (fun _ _ h => by cases h)
def i44 : TI D.S := ⟨.slice 2, false, 1, 24, [.nils], some (.sl (.int .i64)), []⟩
theorem t44 : TiOk D PP 44 i44 where
  info := ti_of (by kernel_rfl) (by kernel_rfl) (by kernel_rfl) (by kernel_rfl) (by kernel_rfl) (fun h => by cases h)
  desc := Try.underlying44
  agg := by kernel_rfl
  pos := by decide
  und := by kernel_rfl
  byt := by decide
  zlen := rfl
  eqk := .inl rfl
  ty := fun τ h => by cases h; exact ⟨rfl, rfl⟩
  fld := fun fs h => by cases h
  fund := fund_no Try.underlying44 (fun _ h => by cases h)
  aund := aund_no Try.underlying44 (fun _ _ h => by cases h)
def i47 : TI D.S := ⟨.func, false, 1, 8, [.nilf], none, []⟩
theorem t47 : TiOk D PP 47 i47 where
  info := ti_of (by kernel_rfl) (by kernel_rfl) (by kernel_rfl) (by kernel_rfl) (by kernel_rfl) (fun h => by cases h)
  desc := ⟨_, _, _, Try.underlying47⟩
  agg := by kernel_rfl
  pos := by decide
  und := by kernel_rfl
  byt := by decide
  zlen := rfl
  eqk := .inl rfl
  ty := fun τ h => by cases h
  fld := fun fs h => by cases h
  fund := fund_no Try.underlying47 (fun _ h => by cases h)
  aund := aund_no Try.underlying47 (fun _ _ h => by cases h)
def i48 : TI D.S := ⟨.int .u64, false, 1, 8, [.int .u64 0], some (.int .u64), []⟩
theorem t48 : TiOk D PP 48 i48 where
  info := ti_of (by kernel_rfl) (by kernel_rfl) (by kernel_rfl) (by kernel_rfl) (by kernel_rfl) (fun h => by cases h)
  desc := Try.underlying48
  agg := by kernel_rfl
  pos := by decide
  und := by kernel_rfl
  byt := by decide
  zlen := rfl
  eqk := .inl rfl
  ty := fun τ h => by cases h; exact ⟨rfl, rfl⟩
  fld := fun fs h => by cases h
  fund := fund_no Try.underlying48 (fun _ h => by cases h)
  aund := aund_no Try.underlying48 (fun _ _ h => by cases h)
def i50 : TI D.S := ⟨.struct [(0, 1, false), (1, 1, false)], true, 2, 16, [.int .u64 0, .int .u64 0], some (.st 4), [.int .u64, .int .u64]⟩
theorem t50 : TiOk D PP 50 i50 where
  info := ti_of (by kernel_rfl) (by kernel_rfl) (by kernel_rfl) (by kernel_rfl) (by kernel_rfl) (fun _ => by kernel_rfl)
  desc := ⟨_, Try.underlying50, by kernel_rfl⟩
  agg := by kernel_rfl
  pos := by decide
  und := by kernel_rfl
  byt := by decide
  zlen := rfl
  eqk := .inr ⟨20, by decide, by kernel_rfl, by kernel_rfl, by kernel_rfl⟩
  ty := fun τ h => by cases h; exact ⟨rfl, rfl⟩
  fld := fun fs h => by cases h; decide
  fund := fund_of Try.underlying50 (by kernel_rfl)
  aund := aund_no Try.underlying50 (fun _ _ h => by cases h)
def i56 : TI D.S := ⟨.slice 73, false, 1, 24, [.nils], some (.sl (.st 5)), []⟩
theorem t56 : TiOk D PP 56 i56 where
  info := ti_of (by kernel_rfl) (by kernel_rfl) (by kernel_rfl) (by kernel_rfl) (by kernel_rfl) (fun h => by cases h)
  desc := Try.underlying56
  agg := by kernel_rfl
  pos := by decide
  und := by kernel_rfl
  byt := by decide
  zlen := rfl
  eqk := .inl rfl
  ty := fun τ h => by cases h; exact ⟨rfl, rfl⟩
  fld := fun fs h => by cases h
  fund := fund_no Try.underlying56 (fun _ h => by cases h)
  aund := aund_no Try.underlying56 (fun _ _ h => by cases h)
def i59 : TI D.S := ⟨.struct [(0, 1, false), (1, 1, false)], true, 2, 16, [.int .i64 0, .int .i64 0], some (.st 6), [.int .i64, .int .i64]⟩
theorem t59 : TiOk D PP 59 i59 where
  info := ti_of (by kernel_rfl) (by kernel_rfl) (by kernel_rfl) (by kernel_rfl) (by kernel_rfl) (fun _ => by kernel_rfl)
  desc := ⟨_, Try.underlying59, by kernel_rfl⟩
  agg := by kernel_rfl
  pos := by decide
  und := by kernel_rfl
  byt := by decide
  zlen := rfl
  eqk := .inr ⟨20, by decide, by kernel_rfl, by kernel_rfl, by kernel_rfl⟩
  ty := fun τ h => by cases h; exact ⟨rfl, rfl⟩
  fld := fun fs h => by cases h; decide
  fund := fund_of Try.underlying59 (by kernel_rfl)
  aund := aund_no Try.underlying59 (fun _ _ h => by cases h)
def i65 : TI D.S := ⟨.int .u64, false, 1, 8, [.int .u64 0], some (.int .u64), []⟩
theorem t65 : TiOk D PP 65 i65 where
  info := ti_of (by kernel_rfl) (by kernel_rfl) (by kernel_rfl) (by kernel_rfl) (by kernel_rfl) (fun h => by cases h)
  desc := Try.underlying65
  agg := by kernel_rfl
  pos := by decide
  und := by kernel_rfl
  byt := by decide
  zlen := rfl
  eqk := .inl rfl
  ty := fun τ h => by cases h; exact ⟨rfl, rfl⟩
  fld := fun fs h => by cases h
  fund := fund_no Try.underlying65 (fun _ h => by cases h)
  aund := aund_no Try.underlying65 (fun _ _ h => by cases h)
def i71 : TI D.S := ⟨.slice 48, false, 1, 24, [.nils], some (.sl (.int .u64)), []⟩
theorem t71 : TiOk D PP 71 i71 where
  info := ti_of (by kernel_rfl) (by kernel_rfl) (by kernel_rfl) (by kernel_rfl) (by kernel_rfl) (fun h => by cases h)
  desc := Try.underlying71
  agg := by kernel_rfl
  pos := by decide
  und := by kernel_rfl
  byt := by decide
  zlen := rfl
  eqk := .inl rfl
  ty := fun τ h => by cases h; exact ⟨rfl, rfl⟩
  fld := fun fs h => by cases h
  fund := fund_no Try.underlying71 (fun _ h => by cases h)
  aund := aund_no Try.underlying71 (fun _ _ h => by cases h)
def i73 : TI D.S := ⟨.struct [(0, 1, false), (1, 1, false)], true, 2, 32, [.bool false, .nils], some (.st 5), []⟩
theorem t73 : TiOk D PP 73 i73 where
  info := ti_of (by kernel_rfl) (by kernel_rfl) (by kernel_rfl) (by kernel_rfl) (by kernel_rfl) (fun _ => by kernel_rfl)
  desc := ⟨_, Try.underlying73, by kernel_rfl⟩
  agg := by kernel_rfl
  pos := by decide
  und := by kernel_rfl
  byt := by decide
  zlen := rfl
  eqk := .inl rfl
  ty := fun τ h => by cases h; exact ⟨rfl, rfl⟩
  fld := fun fs h => by cases h; decide
  fund := fund_of Try.underlying73 (by kernel_rfl)
  aund := aund_no Try.underlying73 (fun _ _ h => by cases h)
def i80 : TI D.S := ⟨.slice 56, false, 1, 24, [.nils], some (.sl (.sl (.st 5))), []⟩
theorem t80 : TiOk D PP 80 i80 where
  info := ti_of (by kernel_rfl) (by kernel_rfl) (by kernel_rfl) (by kernel_rfl) (by kernel_rfl) (fun h => by cases h)
  desc := Try.underlying80
  agg := by kernel_rfl
  pos := by decide
  und := by kernel_rfl
  byt := by decide
  zlen := rfl
  eqk := .inl rfl
  ty := fun τ h => by cases h; exact ⟨rfl, rfl⟩
  fld := fun fs h => by cases h
  fund := fund_no Try.underlying80 (fun _ h => by cases h)
  aund := aund_no Try.underlying80 (fun _ _ h => by cases h)
def i83 : TI D.S := ⟨.slice 23, false, 1, 24, [.nils], some (.sl (.st 0)), []⟩
theorem t83 : TiOk D PP 83 i83 where
  info := ti_of (by kernel_rfl) (by kernel_rfl) (by kernel_rfl) (by kernel_rfl) (by kernel_rfl) (fun h => by cases h)
  desc := Try.underlying83
  agg := by kernel_rfl
  pos := by decide
  und := by kernel_rfl
  byt := by decide
  zlen := rfl
  eqk := .inl rfl
  ty := fun τ h => by cases h; exact ⟨rfl, rfl⟩
  fld := fun fs h => by cases h
  fund := fund_no Try.underlying83 (fun _ h => by cases h)
  aund := aund_no Try.underlying83 (fun _ _ h => by cases h)
def i85 : TI D.S := ⟨.slice 3, false, 1, 24, [.nils], some (.sl (.int .i64)), []⟩
theorem t85 : TiOk D PP 85 i85 where
  info := ti_of (by kernel_rfl) (by kernel_rfl) (by kernel_rfl) (by kernel_rfl) (by kernel_rfl) (fun h => by cases h)
  desc := Try.underlying85
  agg := by kernel_rfl
  pos := by decide
  und := by kernel_rfl
  byt := by decide
  zlen := rfl
  eqk := .inl rfl
  ty := fun τ h => by cases h; exact ⟨rfl, rfl⟩
  fld := fun fs h => by cases h
  fund := fund_no Try.underlying85 (fun _ h => by cases h)
  aund := aund_no Try.underlying85 (fun _ _ h => by cases h)
theorem D_ti : ∀ t i, (t, i) ∈ D.ti → TiOk D PP t i := fun t i h => by
  have h : (t, i) ∈ [(2, i2), (3, i3), (4, i4), (5, i5), (9, i9), (23, i23), (25, i25), (27, i27), (30, i30), (37, i37), (44, i44), (47, i47), (48, i48), (50, i50), (56, i56), (59, i59), (65, i65), (71, i71), (73, i73), (80, i80), (83, i83), (85, i85)] := h
  simp only [List.mem_cons, List.not_mem_nil, or_false, Prod.mk.injEq] at h
  rcases h with ⟨rfl, rfl⟩ | ⟨rfl, rfl⟩ | ⟨rfl, rfl⟩ | ⟨rfl, rfl⟩ | ⟨rfl, rfl⟩ | ⟨rfl, rfl⟩ | ⟨rfl, rfl⟩ | ⟨rfl, rfl⟩ | ⟨rfl, rfl⟩ | ⟨rfl, rfl⟩ | ⟨rfl, rfl⟩ | ⟨rfl, rfl⟩ | ⟨rfl, rfl⟩ | ⟨rfl, rfl⟩ | ⟨rfl, rfl⟩ | ⟨rfl, rfl⟩ | ⟨rfl, rfl⟩ | ⟨rfl, rfl⟩ | ⟨rfl, rfl⟩ | ⟨rfl, rfl⟩ | ⟨rfl, rfl⟩ | ⟨rfl, rfl⟩
  · exact t2
  · exact t3
  · exact t4
  · exact t5
  · exact t9
  · exact t23
  · exact t25
  · exact t27
  · exact t30
  · exact t37
  · exact t44
  · exact t47
  · exact t48
  · exact t50
  · exact t56
  · exact t59
  · exact t65
  · exact t71
  · exact t73
  · exact t80
  · exact t83
  · exact t85
theorem lw : Lawful D PP where
  len := D_len
  dec := D_dec
  pure := D_pure
  ti := D_ti
  mixed := by kernel_rfl
end Go.Proofs.Ytkpjeihgigmnkaa.Ev
