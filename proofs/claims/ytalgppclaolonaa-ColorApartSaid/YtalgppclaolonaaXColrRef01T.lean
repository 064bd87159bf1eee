/- What the reference of layer 1 computes: products. (Where Ref01M held them, import this, too.) -/
import Derived.Test.YtalgppclaolonaaXColrRef01M
import Derived.Test.YtalgppclaolonaaXColrx14
import Derived.Test.YtalgppclaolonaaXColrx15

namespace Go.Proofs.Ytalgppclaolonaa.XColr
open Go.RowKit Go.Proofs.Ytalgppclaolonaa.XM Go.Proofs.Ytalgppclaolonaa.NumM Go.Proofs.YtalgppclaolonaaW.PrintWords Go.Proofs.YtalgppclaolonaaW.PrintLast Go.Proofs.YtalgppclaolonaaW.PrintMore
set_option linter.unusedVariables false

theorem rtimes_in {a b : List Int} (ha : Dig a) (hb : Dig b) (la : a.length ≤ 100000) (lb : b.length ≤ 100000) (i : Nat) (hi : i < a.length) (T0 : Int)
    (hT : T0 + at_ a i * val b * 65536 ^ i < 65536 ^ (i + 1 + b.length)) :
    ∀ (d k : Nat) (out : List Int) (c : Int), k + d = b.length + 2 → Dig out → out.length = a.length + b.length + 1 → 0 ≤ c → c < 65536 →
      val out + c * 65536 ^ (i + k) = T0 + at_ a i * low b k * 65536 ^ i →
      ∃ out', Dig out' ∧ out'.length = a.length + b.length + 1 ∧ val out' = T0 + at_ a i * val b * 65536 ^ i ∧
        ∀ r, Ev (fun kk => pochoirref01_Times.l0 kk a b out' ((i + 1 : Nat) : Int)) r → Ev (fun kk => pochoirref01_Times.l1 kk a b out (i : Int) c (k : Int)) r := by
  have ai := at_bd ha i
  have last : ∀ (k : Nat) (out : List Int) (c : Int), b.length + 1 ≤ k → Dig out → 0 ≤ c → val out + c * 65536 ^ (i + k) = T0 + at_ a i * low b k * 65536 ^ i → c = 0 := by
    intro k out c hk hd hc0 hv
    have h1 := val_bd hd
    rw [low_all b k (by omega)] at hv
    have h2 := pw_le (show i + 1 + b.length ≤ i + k by omega)
    rcases Int.lt_or_le 0 c with h | h
    · have := Int.mul_le_mul_of_nonneg_right (show 1 ≤ c by omega) (Int.le_of_lt (pw_pos (i + k)))
      omega
    · omega
  have done : ∀ (k : Nat) (out : List Int) (c : Int), b.length ≤ k → c = 0 → Dig out → out.length = a.length + b.length + 1 → val out + c * 65536 ^ (i + k) = T0 + at_ a i * low b k * 65536 ^ i →
      ∃ out', Dig out' ∧ out'.length = a.length + b.length + 1 ∧ val out' = T0 + at_ a i * val b * 65536 ^ i ∧
        ∀ r, Ev (fun kk => pochoirref01_Times.l0 kk a b out' ((i + 1 : Nat) : Int)) r → Ev (fun kk => pochoirref01_Times.l1 kk a b out (i : Int) c (k : Int)) r := by
    intro k out c hk hc hd hl hv
    subst hc
    rw [low_all b k hk] at hv
    refine ⟨out, hd, hl, by omega, fun r hr => ?_⟩
    refine Ev.succ ?_
    simp only [pochoirref01_Times.l1, if_neg (show ¬ ((k : Int) < (b.length : Int)) by omega), if_neg (show ¬ ((0 : Int) > 0) by omega)]
    rw [w64 (by omega) (by omega)]
    exact hr
  intro d
  induction d with
  | zero =>
    intro k out c hk hd hl hc0 hc hv
    exact done k out c (by omega) (last k out c (by omega) hd hc0 hv) hd hl hv
  | succ d ih =>
    intro k out c hk hd hl hc0 hc hv
    by_cases hend : b.length ≤ k ∧ c = 0
    · exact done k out c hend.1 hend.2 hd hl hv
    · have hkb : k ≤ b.length := by
        rcases Nat.lt_or_ge b.length k with h | h
        · exact absurd ⟨by omega, last k out c (by omega) hd hc0 hv⟩ hend
        · exact h
      have oi := at_bd hd (i + k)
      have bk := at_bd hb k
      have hm := mul_bd (x := at_ a i) (y := at_ b k) (M := 65535) (N := 65535) (by omega) (by omega) (by omega) (by omega)
      have hm0 := mul_nn ai.1 bk.1
      obtain ⟨m, hmm⟩ : ∃ m, m = at_ a i * at_ b k := ⟨_, rfl⟩
      obtain ⟨x, hx⟩ : ∃ x, x = at_ out (i + k) + at_ a i * at_ b k + c := ⟨_, rfl⟩
      have hxb : 0 ≤ x ∧ x < 4294967296 := by omega
      obtain ⟨out', d1, d2, d3, d4⟩ := ih (k + 1) (out.set (i + k) (x % 65536)) (x / 65536) (by omega) (hd.set _ (by omega)) (by simpa using hl) (by omega) (by omega) (by
        rw [val_set _ _ _ (by omega), low_succ, show i + (k + 1) = i + k + 1 by omega, pw_succ]
        exact times_step hx (Int.pow_add _ _ _) hv)
      refine ⟨out', d1, d2, d3, fun r hr => ?_⟩
      have h4 := d4 r hr
      have q1 : (((i + k : Nat) : Int) < (out.length : Int)) := by omega
      have q2 : (0 : Int) ≤ (i : Int) := by omega
      have q3 : ((i : Int) < (a.length : Int)) := by omega
      have q4 : ¬ ((k : Int) < (b.length : Int)) → c > 0 := by omega
      clear ih last done hv hT d4 d3
      have n1 : wrap64 ((i : Int) + (k : Int)) = ((i + k : Nat) : Int) := by rw [w64 (by omega) (by omega)]; omega
      have n2 : wrap64 ((k : Int) + 1) = ((k + 1 : Nat) : Int) := by rw [w64 (by omega) (by omega)]; omega
      have n3 : rd out ((i + k : Nat) : Int) = at_ out (i + k) := by unfold rd at_; rw [Int.toNat_natCast]
      have n4 : rd a (i : Int) = at_ a i := by unfold rd at_; rw [Int.toNat_natCast]
      have n5 : IntKind.u64.wrap (at_ a i * at_ b k) = at_ a i * at_ b k := wu64 (by omega) (by omega)
      have n6 : IntKind.u64.wrap (at_ out (i + k) + at_ a i * at_ b k) = at_ out (i + k) + at_ a i * at_ b k := wu64 (by omega) (by omega)
      have n7 : IntKind.u64.wrap (at_ out (i + k) + at_ a i * at_ b k + c) = x := by rw [← hx]; exact wu64 (by omega) (by omega)
      have n8 : IntKind.u64.wrap (x / 65536) = x / 65536 := wu64 (by omega) (by omega)
      refine Ev.step (fun kk => ?_) h4
      by_cases c1 : (k : Int) < (b.length : Int)
      · rw [pochoirref01_Times.l1, if_pos c1, n1, if_pos (Int.natCast_nonneg _), if_pos q1, if_pos q2, if_pos q3, rat_f, Option.bind_some, n2, n3, n4, n5, n6, n7, tmod_nn hxb.1, tdiv_nn hxb.1, n8, Int.toNat_natCast]
      · rw [pochoirref01_Times.l1, if_neg c1, if_pos (q4 c1), n1, if_pos (Int.natCast_nonneg _), if_pos q1, if_pos q2, if_pos q3, rat_f, Option.bind_some, n2, n3, n4, n5, n6, n7, tmod_nn hxb.1, tdiv_nn hxb.1, n8, Int.toNat_natCast]

theorem rtimes_out {a b : List Int} (ha : Dig a) (hb : Dig b) (la : a.length ≤ 100000) (lb : b.length ≤ 100000) :
    ∀ (d i : Nat) (out : List Int), i + d = a.length → Dig out → out.length = a.length + b.length + 1 → val out = low a i * val b →
      ∃ r, Ev (fun kk => pochoirref01_Times.l0 kk a b out (i : Int)) r ∧ Dig r ∧ r.length = a.length + b.length + 1 ∧ val r = val a * val b
  | 0, i, out, hi, hd, hl, hv => by
    refine ⟨out, ?_, hd, hl, by rw [hv, low_all a i (by omega)]⟩
    refine Ev.succ ?_
    simp only [pochoirref01_Times.l0, if_neg (show ¬ ((i : Int) < (a.length : Int)) by omega)]
    exact Ev.now _
  | d + 1, i, out, hi, hd, hl, hv => by
    have hbv := val_bd hb
    have hlow := low_bd ha (i + 1)
    have e1 : val out + at_ a i * val b * 65536 ^ i = low a (i + 1) * val b := by rw [hv, low_succ, Int.add_mul, Int.mul_assoc, Int.mul_comm (val b), ← Int.mul_assoc]
    have hT : val out + at_ a i * val b * 65536 ^ i < 65536 ^ (i + 1 + b.length) := by
      rw [e1, Int.pow_add]
      have h1 : low a (i + 1) * val b ≤ (65536 ^ (i + 1) - 1) * val b := Int.mul_le_mul_of_nonneg_right (by omega) hbv.1
      have h2 : (65536 ^ (i + 1) - 1) * val b ≤ (65536 ^ (i + 1) - 1) * 65536 ^ b.length := Int.mul_le_mul_of_nonneg_left (by omega) (by have := pw_pos (i + 1); omega)
      have h3 := pw_pos b.length
      have h4 : (65536 ^ (i + 1) - 1) * 65536 ^ b.length = (65536 : Int) ^ (i + 1) * 65536 ^ b.length - 65536 ^ b.length := by rw [Int.sub_mul, Int.one_mul]
      omega
    obtain ⟨out', d1, d2, d3, d4⟩ := rtimes_in ha hb la lb i (by omega) (val out) hT (b.length + 2) 0 out 0 (by omega) hd hl (by omega) (by omega) (by simp [low])
    obtain ⟨r, h1, h2, h3, h4⟩ := rtimes_out ha hb la lb d (i + 1) out' (by omega) d1 d2 (by rw [d3, e1])
    refine ⟨r, ?_, h2, h3, h4⟩
    have h5 := d4 r h1
    refine Ev.succ ?_
    simp only [pochoirref01_Times.l0, if_pos (show ((i : Int) < (a.length : Int)) by omega)]
    exact h5
theorem rtimes_ev {a b : List Int} (ha : Dig a) (hb : Dig b) (la : a.length ≤ 100000) (lb : b.length ≤ 100000) :
    ∃ r, Ev (fun kk => pochoirref01_Times.f kk a b) r ∧ Dig r ∧ r.length = a.length + b.length + 1 ∧ val r = val a * val b := by
  obtain ⟨r, h1, h2, h3, h4⟩ := rtimes_out ha hb la lb a.length 0 (List.replicate (a.length + b.length + 1) 0) (by omega) (Dig.zero _) (by simp) (by simp [low, val_zero])
  refine ⟨r, ?_, h2, h3, h4⟩
  have n1 : wrap64 (wrap64 ((a.length : Int) + (b.length : Int)) + 1) = ((a.length + b.length + 1 : Nat) : Int) := by rw [w64 (n := (a.length : Int) + (b.length : Int)) (by omega) (by omega), w64 (by omega) (by omega)]; omega
  unfold pochoirref01_Times.f
  simp only [n1, if_pos (show (0 : Int) ≤ ((a.length + b.length + 1 : Nat) : Int) by omega), Int.toNat_natCast, if_pos (show a.length + b.length + 1 ≤ 35184372088832 by omega)]
  exact h1

end Go.Proofs.Ytalgppclaolonaa.XColr
