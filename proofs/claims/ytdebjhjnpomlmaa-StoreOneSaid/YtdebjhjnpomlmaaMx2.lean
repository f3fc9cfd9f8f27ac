/- What the mixer's functions come to, in plain numbers. Conditions: none. -/
import Derived.Test.YtdebjhjnpomlmaaMx1
import Derived.Laws.Bits64b
set_option linter.unusedVariables false
set_option linter.unusedSimpArgs false
namespace Go.Al
open Go.Proofs
def foldN (x : Nat) : Nat := x ^^^ x / 4294967296
theorem foldW_nat (x : Nat) (h : x < 18446744073709551616) : foldW x = (foldN x : Nat) := by
  have := xorShift_u64 x 4294967296 h
  exact this
theorem foldN_lt (x : Nat) (h : x < 18446744073709551616) : foldN x < 18446744073709551616 := by
  have : x ^^^ x / 4294967296 < 2 ^ 64 := Nat.xor_lt_two_pow (by omega) (by omega)
  exact this
theorem foldN_back (x : Nat) (h : x < 18446744073709551616) : foldN (foldN x) = x := by
  have e : ∀ y : Nat, y / 4294967296 = y >>> 32 := fun y => by rw [Nat.shiftRight_eq_div_pow]
  have z : x >>> 32 >>> 32 = 0 := by
    rw [← Nat.shiftRight_add, Nat.shiftRight_eq_div_pow]
    exact Nat.div_eq_of_lt (by omega)
  unfold foldN
  rw [e, e, Nat.shiftRight_xor_distrib, z, Nat.xor_zero, Nat.xor_assoc, Nat.xor_self, Nat.xor_zero]
def mixN (x : Nat) : Nat := foldN (x * 11400714819323198485 % 18446744073709551616)
def unmixN (x : Nat) : Nat := foldN x * 17428512612931826493 % 18446744073709551616
theorem mixF_nat (x : Nat) (h : x < 18446744073709551616) : mixF x = (mixN x : Nat) := by
  unfold mixF mixN
  rw [IntKind.wrap_u64, ← foldW_nat _ (by omega)]
  congr 1
theorem unmixF_nat (x : Nat) (h : x < 18446744073709551616) : unmixF x = (unmixN x : Nat) := by
  unfold unmixF unmixN
  rw [foldW_nat _ h, IntKind.wrap_u64]
  rw [Int.natCast_emod, Int.natCast_mul]
  rfl
theorem mixN_lt (x : Nat) : mixN x < 18446744073709551616 := foldN_lt _ (by omega)
theorem unmixN_lt (x : Nat) : unmixN x < 18446744073709551616 := by unfold unmixN; omega
theorem backN1 (x : Nat) (h : x < 18446744073709551616) : unmixN (mixN x) = x := by
  unfold unmixN mixN
  rw [foldN_back _ (by omega)]
  have : x * 11400714819323198485 % 18446744073709551616 * 17428512612931826493 % 18446744073709551616 = x * (11400714819323198485 * 17428512612931826493) % 18446744073709551616 := by
    rw [Nat.mod_mul_mod, Nat.mul_assoc]
  rw [this, Nat.mul_mod]
  have : 11400714819323198485 * 17428512612931826493 % 18446744073709551616 = 1 := by decide +kernel
  rw [this]; omega
theorem backN2 (x : Nat) (h : x < 18446744073709551616) : mixN (unmixN x) = x := by
  unfold unmixN mixN
  have : foldN x * 17428512612931826493 % 18446744073709551616 * 11400714819323198485 % 18446744073709551616 = foldN x * (17428512612931826493 * 11400714819323198485) % 18446744073709551616 := by
    rw [Nat.mod_mul_mod, Nat.mul_assoc]
  rw [this, Nat.mul_mod]
  have : 17428512612931826493 * 11400714819323198485 % 18446744073709551616 = 1 := by decide +kernel
  have h2 := foldN_lt x h
  rw [this, Nat.mul_one, Nat.mod_mod, Nat.mod_eq_of_lt h2, foldN_back x h]
section
variable {k k2 : Int} (h0 : 0 ≤ k) (h1 : k < 18446744073709551616) (g0 : 0 ≤ k2) (g1 : k2 < 18446744073709551616)
include h0 h1
theorem mix_rng : 0 ≤ mixF k ∧ mixF k < 18446744073709551616 := by
  obtain ⟨x, rfl⟩ := Int.eq_ofNat_of_zero_le h0
  have hx : x < 18446744073709551616 := by omega
  have := mixN_lt x
  rw [mixF_nat x hx]; omega
theorem unmix_rng : 0 ≤ unmixF k ∧ unmixF k < 18446744073709551616 := by
  obtain ⟨x, rfl⟩ := Int.eq_ofNat_of_zero_le h0
  have hx : x < 18446744073709551616 := by omega
  have := unmixN_lt x
  rw [unmixF_nat x hx]; omega
theorem back1 : unmixF (mixF k) = k := by
  obtain ⟨x, rfl⟩ := Int.eq_ofNat_of_zero_le h0
  have hx : x < 18446744073709551616 := by omega
  rw [mixF_nat x hx, unmixF_nat _ (mixN_lt x), backN1 x hx]
theorem back2 : mixF (unmixF k) = k := by
  obtain ⟨x, rfl⟩ := Int.eq_ofNat_of_zero_le h0
  have hx : x < 18446744073709551616 := by omega
  rw [unmixF_nat x hx, mixF_nat _ (unmixN_lt x), backN2 x hx]
include g0 g1
theorem mix_inj : (mixF k = mixF k2) = (k = k2) := by
  apply propext
  constructor
  · intro h
    rw [← back1 h0 h1, h, back1 g0 g1]
  · rintro rfl; rfl
end
theorem and_mod (x p : Nat) (hx : x < 18446744073709551616) (hp : p < 64) : Go.bits .and .u64 (x : Int) ((2 : Int) ^ p - 1) = (x : Int) % (2 : Int) ^ p := by
  have hp1 : 1 ≤ 2 ^ p := Nat.one_le_two_pow
  have hp2 : 2 ^ p ≤ 2 ^ 63 := Nat.pow_le_pow_right (by omega) (by omega)
  have e : (2 : Int) ^ p - 1 = ((2 ^ p - 1 : Nat) : Int) := by push_cast [hp1]; rfl
  rw [e, bits_and_u64_nat _ _ hx (by omega), Nat.and_two_pow_sub_one_eq_mod]
  push_cast; rfl
theorem homeF_eq {k a : Int} (h0 : 0 ≤ k) (h1 : k < 18446744073709551616) {p : Nat} (hp : p < 31) (ha : a = 2 ^ p) : homeF k a = mixF k % a := by
  subst ha
  have hq := pow31 p hp
  obtain ⟨m0, m1⟩ := mix_rng h0 h1
  obtain ⟨x, hx⟩ := Int.eq_ofNat_of_zero_le m0
  rw [homeF, if_pos (sizeB_of hp rfl), wrap_in (n := (2 : Int) ^ p - 1) (by omega) (by omega), IntKind.wrap_u64 ((2 : Int) ^ p - 1), Int.emod_eq_of_lt (a := (2 : Int) ^ p - 1) (by omega) (by omega), hx, and_mod x p (by omega) (by omega)]
  have q1 : 0 ≤ (x : Int) % 2 ^ p := Int.emod_nonneg _ (by omega)
  have q2 : (x : Int) % 2 ^ p < 2 ^ p := Int.emod_lt_of_pos _ (by omega)
  exact wrap_in (by omega) (by omega)
theorem homeR_eq {k a : Int} (h0 : 0 ≤ k) (h1 : k < 18446744073709551616) : homeR k a = homeF k a := by
  by_cases h : sizeB a = true
  · obtain ⟨p, hp, e⟩ := sizeB_ex h
    rw [homeF_eq h0 h1 hp e, homeR, if_pos h]
    subst e
    have hq := pow31 p hp
    obtain ⟨m0, m1⟩ := mix_rng h0 h1
    have q1 : 0 ≤ mixF k % 2 ^ p := Int.emod_nonneg _ (by omega)
    have q2 : mixF k % 2 ^ p < 2 ^ p := Int.emod_lt_of_pos _ (by omega)
    rw [IntKind.wrap_u64, Int.emod_eq_of_lt (by omega) (by omega), Int.tmod_eq_emod_of_nonneg m0]
    exact wrap_in (by omega) (by omega)
  · rw [homeF, homeR, if_neg h, if_neg h]
theorem awake1 : mixF 1 = 11400714820970677676 := by decide +kernel
theorem awake2 : homeF 1 8 = 4 := by decide +kernel
theorem awake3 : apartF 6 1 8 = 3 := by decide +kernel
theorem awake4 : homeF 1 3 = 0 := by decide +kernel
theorem awake5 : apartF 6 1 3 = 0 := by decide +kernel
theorem awake6 : unmixF (mixF 5) = 5 := back1 (by omega) (by omega)
theorem home_rng {k : Int} (h0 : 0 ≤ k) (h1 : k < 18446744073709551616) {p : Nat} (hp : p < 30) : 0 ≤ homeF k (2 ^ p) ∧ homeF k (2 ^ p) < 2 ^ p ∧ (homeF k (2 * 2 ^ p) = homeF k (2 ^ p) ∨ homeF k (2 * 2 ^ p) = homeF k (2 ^ p) + 2 ^ p) := by
  have hq := pow31 p (by omega)
  obtain ⟨m0, m1⟩ := mix_rng h0 h1
  rw [homeF_eq h0 h1 (by omega) rfl, homeF_eq h0 h1 (p := p + 1) (by omega) (by rw [Int.pow_succ, Int.mul_comm])]
  have q1 : 0 ≤ mixF k % 2 ^ p := Int.emod_nonneg _ (by omega)
  have q2 : mixF k % 2 ^ p < 2 ^ p := Int.emod_lt_of_pos _ (by omega)
  refine ⟨q1, q2, ?_⟩
  generalize (2 : Int) ^ p = m at *
  generalize mixF k = x at *
  have e1 := Int.emod_add_mul_ediv x m
  have e2 := Int.emod_add_mul_ediv x (2 * m)
  have r1 : 0 ≤ x % (2 * m) := Int.emod_nonneg _ (by omega)
  have r2 : x % (2 * m) < 2 * m := Int.emod_lt_of_pos _ (by omega)
  have d : (x % (2 * m)) % m = x % m := Int.emod_emod_of_dvd x ⟨2, by rw [Int.mul_comm]⟩
  rw [← d]
  rcases Int.lt_or_le (x % (2 * m)) m with h | h
  · left; rw [Int.emod_eq_of_lt r1 h]
  · right
    have : x % (2 * m) % m = (x % (2 * m) - m) % m := by rw [Int.sub_emod_right]
    rw [this, Int.emod_eq_of_lt (a := x % (2 * m) - m) (b := m) (by omega) (by omega)]; omega
theorem bvmod (x : Int) : (BitVec.ofInt 64 x).toNat = (x % 18446744073709551616).toNat := by
  rw [BitVec.toNat_ofInt]
  rfl
theorem apartF_eq {h a : Int} {p : Nat} (hp : p < 31) (h0 : 0 ≤ h) (h1 : h < 2 ^ p) (a0 : 0 ≤ a) (a1 : a < 2 ^ p) : apartF h a (2 ^ p) = (a - h) % 2 ^ p := by
  have hq := pow31 p hp
  have ep : (2 : Int) ^ p = ((2 ^ p : Nat) : Int) := by push_cast; rfl
  have hp1 : 1 ≤ 2 ^ p := Nat.one_le_two_pow
  have hp2 : 2 ^ p ≤ 2 ^ 30 := Nat.pow_le_pow_right (by omega) (by omega)
  rw [apartF, if_pos (sizeB_of hp rfl), wrap_in (n := (2 : Int) ^ p - 1) (by omega) (by omega), IntWalk.i64_in (a - h) ⟨by omega, by omega⟩]
  have q1 : 0 ≤ (a - h) % 2 ^ p := Int.emod_nonneg _ (by omega)
  have q2 : (a - h) % 2 ^ p < 2 ^ p := Int.emod_lt_of_pos _ (by omega)
  show IntKind.i64.wrap ((BitVec.ofInt 64 (a - h) &&& BitVec.ofInt 64 ((2 : Int) ^ p - 1)).toNat : Int) = _
  have e2 : (((2 : Int) ^ p - 1) % 18446744073709551616).toNat = 2 ^ p - 1 := by
    rw [ep]; omega
  rw [BitVec.toNat_and, bvmod, bvmod, e2, Nat.and_two_pow_sub_one_eq_mod]
  have e3 : (((((a - h) % 18446744073709551616).toNat % 2 ^ p : Nat)) : Int) = (a - h) % 2 ^ p := by
    rw [Int.natCast_emod, Int.toNat_of_nonneg (Int.emod_nonneg _ (by omega)), ← ep]
    refine Int.emod_emod_of_dvd _ ?_
    refine ⟨2 ^ (64 - p), ?_⟩
    rw [← Int.pow_add]
    have : p + (64 - p) = 64 := by omega
    rw [this]; rfl
  rw [e3]
  exact wrap_in q1 (by omega)
theorem emod_two {x m : Int} (hm : 0 < m) (h0 : -m < x) (h1 : x < m) : x % m = if 0 ≤ x then x else x + m := by
  split
  · exact Int.emod_eq_of_lt ‹_› h1
  · rw [← Int.add_emod_right]; exact Int.emod_eq_of_lt (by omega) (by omega)
theorem tmod_two {x m : Int} (hm : 0 < m) (h0 : 0 ≤ x) (h1 : x < 2 * m) : x.tmod m = if x < m then x else x - m := by
  rw [Int.tmod_eq_emod_of_nonneg h0]
  split
  · exact Int.emod_eq_of_lt h0 ‹_›
  · rw [← Int.sub_emod_right]; exact Int.emod_eq_of_lt (by omega) (by omega)
theorem apart_all {h a : Int} {p : Nat} (hp : p < 31) (h0 : 0 ≤ h) (h1 : h < 2 ^ p) (a0 : 0 ≤ a) (a1 : a < 2 ^ p) :
    apartR h a (2 ^ p) = apartF h a (2 ^ p) ∧ (IntKind.i64.wrap (h + apartF h a (2 ^ p))).tmod (2 ^ p) = a ∧ (IntKind.i64.wrap (apartF h a (2 ^ p) + apartF a h (2 ^ p))).tmod (2 ^ p) = 0 ∧ apartF h ((IntKind.i64.wrap (a + 1)).tmod (2 ^ p)) (2 ^ p) = (IntKind.i64.wrap (apartF h a (2 ^ p) + 1)).tmod (2 ^ p) := by
  have hq := pow31 p hp
  have hw1 : IntKind.i64.wrap (a + 1) = a + 1 := wrap_in (by omega) (by omega)
  have ht := tmod_two (x := a + 1) (m := 2 ^ p) (by omega) (by omega) (by omega)
  have hb0 : 0 ≤ (a + 1).tmod (2 ^ p) := by rw [ht]; split <;> omega
  have hb1 : (a + 1).tmod (2 ^ p) < 2 ^ p := by rw [ht]; split <;> omega
  rw [hw1, apartF_eq hp h0 h1 a0 a1, apartF_eq hp a0 a1 h0 h1, apartF_eq hp h0 h1 hb0 hb1, ht, apartR, if_pos (sizeB_of hp rfl)]
  rw [emod_two (x := a - h) (by omega) (by omega) (by omega), emod_two (x := h - a) (by omega) (by omega) (by omega), emod_two (by omega) (by split <;> omega) (by split <;> omega)]
  have hw2 : IntKind.i64.wrap (a - h) = a - h := IntWalk.i64_in _ ⟨by omega, by omega⟩
  rw [hw2]
  generalize (2 : Int) ^ p = m at *
  refine ⟨?_, ?_, ?_, ?_⟩
  · by_cases g : a ≥ h
    · rw [if_pos g, if_pos (by omega)]
    · rw [if_neg g, if_neg (by omega), wrap_in (by omega) (by omega)]
  · rw [wrap_in (by split <;> omega) (by split <;> omega), tmod_two (by omega) (by split <;> omega) (by split <;> omega)]
    split <;> split <;> omega
  · rw [wrap_in (by split <;> split <;> omega) (by split <;> split <;> omega), tmod_two (by omega) (by split <;> split <;> omega) (by split <;> split <;> omega)]
    split <;> split <;> split <;> omega
  · rw [wrap_in (by split <;> omega) (by split <;> omega), tmod_two (by omega) (by split <;> omega) (by split <;> omega)]
    split <;> split <;> split <;> split <;> omega
end Go.Al
