/-
  What the functions that the laws call compute, for every input that the statements allow (part 8): for the claims up to a bulk of 1048576.
-/
import Derived.Test.YtgehlcgjchfibaaGreatDoorY07
set_option linter.unusedVariables false
set_option linter.unusedSimpArgs false
set_option maxRecDepth 100000
set_option linter.defProp false
set_option maxHeartbeats 4000000
namespace Go.Proofs.YtgehlcgjchfibaaGreatDoor.F

theorem shS_err {p : Pat} {m : Int} {neg : Bool} {s : List UInt8} {e k : Int} (h : shS p m neg s e = .err k) : k ≠ 0 := by
  unfold shS at h
  split at h
  · injection h with h; omega
  · split at h
    · injection h with h; omega
    · split at h
      · injection h with h; omega
      · split at h
        · rename_i k' hk
          injection h with h
          have := rdS_err hk
          omega
        · split at h
          · cases h
          · injection h with h; omega
theorem shS_ok {p : Pat} {m : Int} {neg n : Bool} {s : List UInt8} {e : Int} {q : Nat} {E : Int} (h : shS p m neg s e = .ok n q E) :
    goodD s e = true ∧ rdS p m neg (core (dv s)) (ne (dv s) (e + p.mult)) = .ok n q (E + p.mult) := by
  unfold shS at h
  split at h
  · cases h
  · split at h
    · cases h
    · rename_i hg
      split at h
      · cases h
      · split at h
        · cases h
        · rename_i n' q' E' hr
          split at h
          · injection h with h1 h2 h3
            subst h1 h2 h3
            rw [hr]
            exact ⟨by simpa using hg, by congr 1; omega⟩
          · cases h
theorem core_scale {c : Nat} {e K : Int} (h : K ≤ e) : core c * 10 ^ (ne c e - K).toNat = c * 10 ^ (e - K).toNat := by
  by_cases h0 : c = 0
  · subst h0; simp [core_zero]
  · rw [ne_pos h0]
    have h1 : (e + tz c - K).toNat = tz c + (e - K).toNat := by omega
    rw [h1, Nat.pow_add, ← Nat.mul_assoc, core_mul]
theorem ne_ge {c : Nat} {e K : Int} (h : K ≤ e) (h0 : K ≤ 0) : K ≤ ne c e := by
  unfold ne; split <;> omega
theorem shS_bd {p : Pat} (hp : p.Ok) {m : Int} {neg n : Bool} {s : List UInt8} {e : Int} {q : Nat} {E : Int} (h : shS p m neg s e = .ok n q E) : n = neg ∧ nd q < 20000 ∧ -9000 < E ∧ E < 9000 := by
  obtain ⟨hg, hr⟩ := shS_ok h
  have g := goodD_ok hg
  have hd := nd_dv g.1.1
  have hk := Pat.mult_le p
  have hz := tz_le (dv s)
  have hn : nd (core (dv s)) ≤ nd (dv s) := by
    by_cases h0 : dv s = 0
    · rw [h0, core_zero]; omega
    · rw [nd_core h0]; omega
  have hne : -1600 < ne (dv s) (e + p.mult) ∧ ne (dv s) (e + p.mult) < 2900 := by unfold ne; split <;> omega
  have := rdS_ok hp (by omega) (by omega) hr
  exact ⟨this.1, by omega, by omega, by omega⟩
theorem shS_order {p : Pat} (hp : p.Ok) {m : Int} {n1 n2 r1 r2 : Bool} {s1 s2 : List UInt8} {e1 e2 E : Int} {q1 q2 : Nat} {E1 E2 E' : Int} (ha : shS p m n1 s1 e1 = .ok r1 q1 E1) (hb : shS p m n2 s2 e2 = .ok r2 q2 E2)
    (hE : E = if e2 < e1 then e2 else e1) (hE' : E' = if ne q2 E2 < ne q1 E1 then ne q2 E2 else ne q1 E1)
    (h : cmpD n1 (dv s1 * 10 ^ (e1 - E).toNat) n2 (dv s2 * 10 ^ (e2 - E).toNat) ≤ 0) :
    cmpD r1 (core q1 * 10 ^ (ne q1 E1 - E').toNat) r2 (core q2 * 10 ^ (ne q2 E2 - E').toNat) ≤ 0 := by
  obtain ⟨g1, w1⟩ := shS_ok ha
  obtain ⟨g2, w2⟩ := shS_ok hb
  have b1 := goodD_ok g1
  have b2 := goodD_ok g2
  have d1 := nd_dv b1.1.1
  have d2 := nd_dv b2.1.1
  have hk := Pat.mult_le p
  have hc := hp.cnt
  have hm := Pat.most_le hp
  have bd1 := shS_bd hp ha
  have bd2 := shS_bd hp hb
  have hEb : E ≤ e1 ∧ E ≤ e2 ∧ -1001 < E := by rw [hE]; split <;> omega
  have hn1 := ne_ge (c := q1) (K := -9000) (show (-9000 : Int) ≤ E1 by omega) (by omega)
  have hn2 := ne_ge (c := q2) (K := -9000) (show (-9000 : Int) ≤ E2 by omega) (by omega)
  have hEb' : E' ≤ ne q1 E1 ∧ E' ≤ ne q2 E2 ∧ -9001 < E' := by rw [hE']; split <;> omega
  have t1 : -20000 + (p.mult : Int) ≤ top (dv s1) (e1 + p.mult) - p.most + 1 := by unfold top; split <;> omega
  have t2 : -20000 + (p.mult : Int) ≤ top (dv s2) (e2 + p.mult) - p.most + 1 := by unfold top; split <;> omega
  rw [cmpD_le] at h ⊢
  -- ahead
  have hs : sv n1 (core (dv s1) * 10 ^ (ne (dv s1) (e1 + p.mult) - (-20000 + p.mult)).toNat) ≤ sv n2 (core (dv s2) * 10 ^ (ne (dv s2) (e2 + p.mult) - (-20000 + p.mult)).toNat) := by
    rw [core_scale (by omega), core_scale (by omega)]
    have x1 : dv s1 * 10 ^ (e1 + (p.mult : Int) - (-20000 + p.mult)).toNat = dv s1 * 10 ^ (e1 - E).toNat * 10 ^ (E + 20000).toNat := by
      rw [Nat.mul_assoc, ← Nat.pow_add]; congr 2; omega
    have x2 : dv s2 * 10 ^ (e2 + (p.mult : Int) - (-20000 + p.mult)).toNat = dv s2 * 10 ^ (e2 - E).toNat * 10 ^ (E + 20000).toNat := by
      rw [Nat.mul_assoc, ← Nat.pow_add]; congr 2; omega
    rw [x1, x2, sv_le_mul (Nat.pow_pos (by decide))]
    exact h
  have z1 := ne_ge (c := dv s1) (K := -20000 + (p.mult : Int)) (show -20000 + (p.mult : Int) ≤ e1 + p.mult by omega) (by omega)
  have z2 := ne_ge (c := dv s2) (K := -20000 + (p.mult : Int)) (show -20000 + (p.mult : Int) ≤ e2 + p.mult by omega) (by omega)
  obtain ⟨k1, k2, hr⟩ := rdS_order hp z1 z2 (by omega) (by rw [top_core]; exact t1) (by rw [top_core]; exact t2) w1 w2 hs
  -- behind
  have y1 : q1 * 10 ^ (E1 + (p.mult : Int) - (-20000 + p.mult)).toNat = core q1 * 10 ^ (ne q1 E1 - E').toNat * 10 ^ (E' + 20000).toNat := by
    rw [Nat.mul_assoc, ← Nat.pow_add, ← show (ne q1 E1 - -20000).toNat = (ne q1 E1 - E').toNat + (E' + 20000).toNat by omega, core_scale (by omega)]
    congr 2; omega
  have y2 : q2 * 10 ^ (E2 + (p.mult : Int) - (-20000 + p.mult)).toNat = core q2 * 10 ^ (ne q2 E2 - E').toNat * 10 ^ (E' + 20000).toNat := by
    rw [Nat.mul_assoc, ← Nat.pow_add, ← show (ne q2 E2 - -20000).toNat = (ne q2 E2 - E').toNat + (E' + 20000).toNat by omega, core_scale (by omega)]
    congr 2; omega
  rw [y1, y2, sv_le_mul (Nat.pow_pos (by decide))] at hr
  exact hr
/-- 0 stays 0. -/
theorem fits_zero (e p : Int) : fits 0 e p = true := by unfold fits; simp
theorem most_pos {p : Pat} (hp : CmpOk p) (hc : p.sci = true ∨ 0 < p.minSig) : 1 ≤ p.most := by
  have := hp.cnt
  unfold Pat.most
  split
  · omega
  · unfold Pat.whole
    split
    · omega
    · rename_i h1
      have : ¬ (p.minInt + p.maxFrac = 0) := fun h => h1 (.inr (.inr h))
      omega
theorem rngd_zero (e : Int) : rngd 0 e = true := by unfold rngd; simp
theorem shS_zero {p : Pat} (hp : CmpOk p) {m : Int} (h : 0 ≤ m ∧ m ≤ 6) (neg : Bool) : ∃ E, shS p m neg [48] 0 = .ok neg 0 E := by
  have hd : dv [48] = 0 := rfl
  have hg : goodD [48] 0 = true := rfl
  unfold shS
  rw [good8_of h, hg, hd, rngd_zero, core_zero]
  simp only [Bool.true_eq_false, if_false]
  generalize hx : ne 0 (0 + (p.mult : Int)) = x
  have : ∃ F, rdS p m neg 0 x = .ok neg 0 F := by
    unfold rdS
    split
    · rename_i hc
      unfold sgS
      rw [if_neg (by have := most_pos hp hc; omega)]
      unfold plS
      rw [good8_of h, fits_zero]
      exact ⟨x, by simp⟩
    · split
      · unfold inS
        rw [good8_of h]
        exact ⟨x, by simp⟩
      · unfold plS
        rw [good8_of h, fits_zero]
        exact ⟨x, by simp⟩
  obtain ⟨F, hF⟩ := this
  rw [hF]
  simp only
  rw [rngd_zero, if_pos rfl]
  exact ⟨_, rfl⟩
end Go.Proofs.YtgehlcgjchfibaaGreatDoor.F

namespace Go.Proofs.YtgehlcgjchfibaaGreatDoor.F
open Go Go.RowKit Go.Proofs

theorem mod_mul_zero {A W k : Nat} (hk : 0 < k) (h : (A * k) % (W * k) = 0) : A % W = 0 := by
  rw [Nat.mul_mod_mul_right] at h
  exact (Nat.mul_eq_zero.1 h).resolve_right (by omega)
theorem plS_exact {o : Int} {neg : Bool} {c : Nat} {e p K : Int} (ho : good8 o = true) (h1 : K ≤ e) (h2 : K ≤ p) (h : (c * 10 ^ (e - K).toNat) % 10 ^ (p - K).toNat = 0) : plS o neg c e p = .ok neg c e := by
  have hf : fits c e p = true := by
    unfold fits
    by_cases hp : p ≤ e
    · simp [hp]
    · rw [pow_sub_add (a := p) (b := e) (c := K) h1 (by omega)] at h
      simp [mod_mul_zero (Nat.pow_pos (by decide)) h]
  unfold plS
  rw [ho, hf]
  rfl
theorem inS_exact {o : Int} {neg : Bool} {c b : Nat} {e p K : Int} (ho : good8 o = true) (h1 : K ≤ e) (h2 : K ≤ p) (h : (c * 10 ^ (e - K).toNat) % (b * 10 ^ (p - K).toNat) = 0) : inS o neg c e b p = .ok neg c e := by
  unfold inS
  simp only
  generalize hF : (if p < e then p else e) = F
  have hFe : F ≤ e := by rw [← hF]; split <;> omega
  have hFp : F ≤ p := by rw [← hF]; split <;> omega
  have hKF : K ≤ F := by rw [← hF]; split <;> omega
  rw [pow_sub_add (a := e) (b := F) (c := K) hKF hFe, pow_sub_add (a := p) (b := F) (c := K) hKF hFp, ← Nat.mul_assoc, ← Nat.mul_assoc] at h
  rw [ho, if_neg (by simp), if_pos (mod_mul_zero (Nat.pow_pos (by decide)) h)]
theorem rdS_exact {p : Pat} (hp : CmpOk p) {o : Int} {neg : Bool} {c : Nat} {e K : Int} (ho : good8 o = true) (h1 : K ≤ e) (h2 : K ≤ -(p.maxFrac : Int)) (h3 : K ≤ top c e - p.most + 1)
    (h : (c * 10 ^ (e - K).toNat) % stW p c e K = 0) : rdS p o neg c e = .ok neg c e := by
  unfold stW at h
  unfold rdS
  by_cases hc : p.sci = true ∨ 0 < p.minSig
  · rw [if_pos hc] at h ⊢
    unfold sgS
    rw [if_neg (by have := most_pos hp hc; omega)]
    exact plS_exact ho h1 h3 h
  · rw [if_neg hc] at h ⊢
    by_cases hi : p.inc ≠ []
    · rw [if_pos hi] at h ⊢
      exact inS_exact ho h1 h2 h
    · rw [if_neg hi] at h ⊢
      exact plS_exact ho h1 h2 h
theorem rA_mul (m : Int) (neg : Bool) (A W : Nat) : rA m neg A W % W = 0 := by
  unfold rA
  split
  · assumption
  · exact Nat.mul_mod_left _ _
/-- Rounded to so many digits, a number has no more than these. -/
theorem rS_again {m : Int} {neg : Bool} {A n : Nat} (hn : 1 ≤ n) (hA : A ≠ 0) (hB : n ≤ nd A) : rA m neg A (10 ^ (nd A - n)) % 10 ^ (nd (rA m neg A (10 ^ (nd A - n))) - n) = 0 := by
  have hm := rA_mul m neg A (10 ^ (nd A - n))
  have hle := rA_le m neg A (10 ^ (nd A - n))
  have hW : 0 < 10 ^ (nd A - n) := Nat.pow_pos (by decide)
  generalize hR : rA m neg A (10 ^ (nd A - n)) = R at *
  have hAlt : A < 10 ^ nd A := lt_nd A
  have hsp : 10 ^ nd A = 10 ^ n * 10 ^ (nd A - n) := by rw [← Nat.pow_add]; congr 1; omega
  have hq : A / 10 ^ (nd A - n) + 1 ≤ 10 ^ n := by
    rw [hsp] at hAlt
    exact (Nat.div_lt_iff_lt_mul hW).2 hAlt
  have hR2 : R ≤ 10 ^ nd A := by
    rw [hsp]
    exact Nat.le_trans hle (Nat.mul_le_mul_right _ hq)
  by_cases hlt : R < 10 ^ nd A
  · have : nd R ≤ nd A := nd_le hlt
    have hd : 10 ^ (nd R - n) ∣ 10 ^ (nd A - n) := Nat.pow_dvd_pow 10 (by omega)
    exact Nat.mod_eq_zero_of_dvd (Nat.dvd_trans hd (Nat.dvd_of_mod_eq_zero hm))
  · have : R = 10 ^ nd A := by omega
    have hnd : nd (10 ^ nd A) = nd A + 1 := by
      have h1 : nd (10 ^ nd A) ≤ nd A + 1 := nd_le (Nat.pow_lt_pow_right (by decide) (by omega))
      have h2 : nd A < nd (10 ^ nd A) := nd_ge (Nat.le_refl _)
      omega
    rw [this, hnd]
    exact Nat.mod_eq_zero_of_dvd (Nat.pow_dvd_pow 10 (by omega))
theorem rdS_again {p : Pat} (hp : CmpOk p) {m o : Int} {neg n : Bool} {c q : Nat} {e E K : Int} (ho : good8 o = true) (h1 : K ≤ e) (h2 : K ≤ -(p.maxFrac : Int)) (h3 : K ≤ top c e - p.most + 1) (h4 : K ≤ 0) (h5 : K ≤ top q E - p.most + 1)
    (h : rdS p m neg c e = .ok n q E) : rdS p o neg (core q) (ne q E) = .ok neg (core q) (ne q E) := by
  obtain ⟨_, hKE, hR⟩ := rdS_rA h1 h2 h3 h
  refine rdS_exact hp ho (ne_ge hKE h4) h2 (by rw [top_core]; exact h5) ?_
  rw [core_scale hKE, hR]
  unfold stW at hR ⊢
  by_cases hc : p.sci = true ∨ 0 < p.minSig
  · rw [if_pos hc] at hR ⊢
    rw [if_pos hc, top_core]
    by_cases hc0 : c = 0
    · rw [hc0, Nat.zero_mul, rA_zero]; exact Nat.zero_mod _
    · by_cases hq0 : q = 0
      · rw [← hR, hq0, Nat.zero_mul]; exact Nat.zero_mod _
      · obtain ⟨t1, t2⟩ := top_pow hc0 h1 h3
        obtain ⟨t3, _⟩ := top_pow hq0 hKE h5
        rw [t3, hR]
        rw [t1]
        exact rS_again (most_pos hp hc) (Nat.mul_ne_zero hc0 (Nat.ne_of_gt (Nat.pow_pos (by decide)))) t2
  · rw [if_neg hc] at hR ⊢
    rw [if_neg hc]
    by_cases hi : p.inc ≠ []
    · rw [if_pos hi]
      exact rA_mul _ _ _ _
    · rw [if_neg hi]
      exact rA_mul _ _ _ _
theorem core_eq0 {q : Nat} : core q = 0 ↔ q = 0 := ⟨fun h => Classical.byContradiction fun hq => core_ne hq h, fun h => by rw [h, core_zero]⟩
theorem ne_shift (q : Nat) (E k : Int) : ne (core q) (ne q E + k) = ne q (E + k) := by
  by_cases h : q = 0
  · subst h; rw [core_zero, ne_zero, ne_zero]
  · have h1 := ne_core q E
    have h2 := core_ne h
    rw [ne_pos h2, ne_pos h] at h1
    rw [ne_pos h2, ne_pos h, ne_pos h]
    omega
theorem rngd_cr (q : Nat) (E : Int) : rngd (core q) (ne q E) = rngd q E := by
  unfold rngd
  rw [ne_core, top_core]
  congr 1
  rw [decide_eq_decide]
  exact core_eq0
theorem goodD_of {q : Nat} {E : Int} (h : rngd q E = true) : goodD (text (core q)) (ne q E) = true := by
  by_cases h0 : q = 0
  · subst h0; rw [core_zero, ne_zero]; decide +kernel
  · unfold rngd at h
    simp only [h0, decide_false, Bool.false_or, Bool.and_eq_true, decide_eq_true_eq] at h
    have h1 := core_ne h0
    have h2 := top_core q E
    unfold top at h2 h
    rw [if_neg h1] at h2
    rw [if_neg h0] at h h2
    have hl := text_len (core q)
    have hk := okN (c := core q) (e := ne q E) (by omega) (by omega)
    rw [core_core, ne_core] at hk
    unfold goodD
    simp only [Bool.and_eq_true, decide_eq_true_eq]
    have hn := nd_ne h1
    refine ⟨⟨⟨by omega, by omega⟩, by omega⟩, hk.1, hk.2.1⟩
theorem shS_rngd {p : Pat} {m : Int} {neg n : Bool} {s : List UInt8} {e : Int} {q : Nat} {E : Int} (h : shS p m neg s e = .ok n q E) : rngd q E = true := by
  unfold shS at h
  split at h
  · cases h
  · split at h
    · cases h
    · split at h
      · cases h
      · split at h
        · cases h
        · split at h
          · rename_i hr
            injection h with h1 h2 h3
            subst h2 h3
            exact hr
          · cases h
/-- WHAT IS ROUNDED IS ROUNDED TO ITSELF, by every way. -/
theorem shS_again {p : Pat} (hp : CmpOk p) {m o : Int} {neg n : Bool} {s : List UInt8} {e E : Int} {q : Nat} (ho : good8 o = true) (h : shS p m neg s e = .ok n q E) :
    ∃ F, shS p o neg (text (core q)) (ne q E) = .ok neg (core q) F ∧ N neg (core q) F = N neg q E := by
  obtain ⟨rfl, b1, b2, b3⟩ := shS_bd hp.ok h
  obtain ⟨hg, hr⟩ := shS_ok h
  have hrn := shS_rngd h
  obtain ⟨hs, hl, he1, he2⟩ := goodD_ok hg
  have hm := p.mult_le
  have hc := hp.ok.cnt
  have hmo := Pat.most_le hp.ok
  have g1 : -20000 ≤ ne (dv s) (e + p.mult) := ne_ge (by omega) (by omega)
  have g2 : (-20000 : Int) ≤ top (core (dv s)) (ne (dv s) (e + p.mult)) - p.most + 1 := by rw [top_core]; unfold top; split <;> omega
  have g3 : (-20000 : Int) ≤ top q (E + p.mult) - p.most + 1 := by unfold top; split <;> omega
  have ha := rdS_again hp (o := o) (K := -20000) ho g1 (by omega) g2 (by omega) g3 hr
  have hrn2 : rngd (core q) (ne q (E + p.mult) - p.mult) = true := by
    by_cases h0 : q = 0
    · subst h0; rw [core_zero]; exact rngd_zero _
    · have : ne q (E + p.mult) - p.mult = ne q E := by rw [ne_pos h0, ne_pos h0]; omega
      rw [this, rngd_cr, hrn]
  refine ⟨ne q (E + p.mult) - p.mult, ?_, ?_⟩
  · unfold shS
    rw [dv_text, goodD_of hrn, rngd_cr, hrn, ho, core_core, ne_shift, ha]
    simp only [Bool.true_eq_false, if_false, hrn2, if_true]
  · have := N_core n q (E + p.mult) (-(p.mult : Int))
    rw [show E + (p.mult : Int) + -(p.mult : Int) = E by omega] at this
    exact this

theorem eqD (neg : Bool) (s : List UInt8) (e : Int) : eqCells [AV.bool neg, .str s, i64 e] [AV.bool neg, .str s, i64 e] = some true := by
  simp [eqCells, eqCell]
/-- THE CONTRACT of ShapeAgain. -/
theorem con10 (s : List UInt8) (m o : Int) (d : Dm) (hs : s.length < 1099511627776) (hd : d.s.length < 1099511627776) : Fn 10 [.str s, i64 m, i64 o, d.av] (.bool true) := by
  have c17 := con17 (d := d) hs hd
  have c18 := con18
  have hp := cmpP_ok s
  generalize (patG s && Dm.in19 d) = g at c17
  generalize cmpP s = p at *
  have c15 := con15 hp.ok (m := m) (neg := d.neg) (s := d.s) (e := d.e)
  refine e10 (by simp) ?_
  simp only [Pat.av, items, Dm.av, D] at c17 c15
  simp only [ic10, D, Dm.av, wkA, Nat.reduceEqDiff, Nat.reduceAdd, Nat.reduceSub, Nat.reduceLeDiff, Nat.reduceLT, Nat.reduceBEq, Nat.reduceBNe, reduceCtorEq]
  refine callF c17 rfl ?_
  cases g with
  | false =>
    simp only [wkA, Nat.reduceEqDiff, Nat.reduceAdd, Nat.reduceSub, Nat.reduceLeDiff, Nat.reduceLT, Nat.reduceBEq, Nat.reduceBNe, reduceCtorEq, Bool.not_false]
    refine callF c18 rfl ?_
    simp only [wkA, Nat.reduceEqDiff, Nat.reduceAdd, Nat.reduceSub, Nat.reduceLeDiff, Nat.reduceLT, Nat.reduceBEq, Nat.reduceBNe, reduceCtorEq]
  | true =>
    by_cases h1 : o < 0
    · have d1 : decide (o < 0) = true := decide_eq_true h1
      simp only [wkA, Nat.reduceEqDiff, Nat.reduceAdd, Nat.reduceSub, Nat.reduceLeDiff, Nat.reduceLT, Nat.reduceBEq, Nat.reduceBNe, reduceCtorEq, Bool.not_true, d1]
      refine callF c18 rfl ?_
      simp only [wkA, Nat.reduceEqDiff, Nat.reduceAdd, Nat.reduceSub, Nat.reduceLeDiff, Nat.reduceLT, Nat.reduceBEq, Nat.reduceBNe, reduceCtorEq]
    · have d1 : decide (o < 0) = false := decide_eq_false h1
      by_cases h2 : o > 7
      · have d2 : decide (o > 7) = true := decide_eq_true h2
        simp only [wkA, Nat.reduceEqDiff, Nat.reduceAdd, Nat.reduceSub, Nat.reduceLeDiff, Nat.reduceLT, Nat.reduceBEq, Nat.reduceBNe, reduceCtorEq, Bool.not_true, d1, d2]
        refine callF c18 rfl ?_
        simp only [wkA, Nat.reduceEqDiff, Nat.reduceAdd, Nat.reduceSub, Nat.reduceLeDiff, Nat.reduceLT, Nat.reduceBEq, Nat.reduceBNe, reduceCtorEq]
      · have d2 : decide (o > 7) = false := decide_eq_false h2
        have ho : good8 o = true := by unfold good8; simp only [Bool.and_eq_true, decide_eq_true_eq]; omega
        simp only [wkA, Nat.reduceEqDiff, Nat.reduceAdd, Nat.reduceSub, Nat.reduceLeDiff, Nat.reduceLT, Nat.reduceBEq, Nat.reduceBNe, reduceCtorEq, Bool.not_true, d1, d2]
        simp only [ic10_2, wkA, Nat.reduceEqDiff, Nat.reduceAdd, Nat.reduceSub, Nat.reduceLeDiff, Nat.reduceLT, Nat.reduceBEq, Nat.reduceBNe, reduceCtorEq]
        cases hx : shS p m d.neg d.s d.e with
        | err k =>
          have hk := shS_err hx
          have ek : (k != 0) = true := by simp [hk]
          rw [hx] at c15
          simp only [Rs.av, zD, D] at c15
          refine callF c15 rfl ?_
          simp only [wkA, Nat.reduceEqDiff, Nat.reduceAdd, Nat.reduceSub, Nat.reduceLeDiff, Nat.reduceLT, Nat.reduceBEq, Nat.reduceBNe, reduceCtorEq, ek]
          refine callF c18 rfl ?_
          simp only [wkA, Nat.reduceEqDiff, Nat.reduceAdd, Nat.reduceSub, Nat.reduceLeDiff, Nat.reduceLT, Nat.reduceBEq, Nat.reduceBNe, reduceCtorEq, binV, eqD, ckind]
        | ok n q E =>
          obtain ⟨hn, _⟩ := shS_bd hp.ok hx
          subst hn
          obtain ⟨F1, h3, h4⟩ := shS_again hp ho hx
          have c15b := con15 hp.ok (m := o) (neg := d.neg) (s := text (core q)) (e := ne q E)
          rw [h3] at c15b
          rw [hx] at c15
          simp only [Rs.av, h4] at c15b
          simp only [Rs.av] at c15
          simp only [N, D, Pat.av, items] at c15 c15b
          have z0 : ((0 : Int) != 0) = false := rfl
          have z1 : ((0 : Int) == 0) = true := rfl
          refine callF c15 rfl ?_
          simp only [wkA, Nat.reduceEqDiff, Nat.reduceAdd, Nat.reduceSub, Nat.reduceLeDiff, Nat.reduceLT, Nat.reduceBEq, Nat.reduceBNe, reduceCtorEq, z0]
          simp only [ic10_1, wkA, Nat.reduceEqDiff, Nat.reduceAdd, Nat.reduceSub, Nat.reduceLeDiff, Nat.reduceLT, Nat.reduceBEq, Nat.reduceBNe, reduceCtorEq]
          refine callF c15b rfl ?_
          simp only [wkA, Nat.reduceEqDiff, Nat.reduceAdd, Nat.reduceSub, Nat.reduceLeDiff, Nat.reduceLT, Nat.reduceBEq, Nat.reduceBNe, reduceCtorEq]
          refine callF c18 rfl ?_
          simp only [wkA, Nat.reduceEqDiff, Nat.reduceAdd, Nat.reduceSub, Nat.reduceLeDiff, Nat.reduceLT, Nat.reduceBEq, Nat.reduceBNe, reduceCtorEq, binV, z1, eqD, ckind]

theorem con30 (neg : Bool) (s : List UInt8) (e : Int) : Fn 30 [D neg s e] (D (!neg) s e) := by
  refine e30 (by simp) ?_
  simp only [D, ic30, wkA, Nat.reduceEqDiff, Nat.reduceAdd, Nat.reduceSub, Nat.reduceLeDiff, Nat.reduceLT, Nat.reduceBEq, Nat.reduceBNe, reduceCtorEq]
/-- The way for the other sign. -/
def swapM (m : Int) : Int := if m = 1 then 0 else if m = 0 then 1 else m
theorem good8_swap (m : Int) : good8 (swapM m) = good8 m := by
  unfold swapM
  split
  · rename_i h; subst h; rfl
  · split
    · rename_i h; subst h; rfl
    · rfl
theorem swap7 (m : Int) : (swapM m = 7) = (m = 7) := by unfold swapM; apply propext; split <;> (try split) <;> omega
theorem awayB_swap (m : Int) (neg odd : Bool) (h : Int) : awayB (swapM m) (!neg) odd h = awayB m neg odd h := by
  unfold swapM
  by_cases h1 : m = 1
  · subst h1
    unfold awayB
    simp
  · rw [if_neg h1]
    by_cases h0 : m = 0
    · subst h0
      unfold awayB
      simp
    · rw [if_neg h0]
      unfold awayB
      simp [h0, h1]
theorem rq_swap (m : Int) (neg : Bool) (c w : Nat) : rq (swapM m) (!neg) c w = rq m neg c w := by unfold rq; rw [awayB_swap]
def Rs.flip : Rs → Rs
  | .err k => .err k
  | .ok n q E => .ok (!n) q E
theorem plS_swap (m : Int) (neg : Bool) (c : Nat) (e p : Int) : plS (swapM m) (!neg) c e p = (plS m neg c e p).flip := by
  unfold plS
  rw [good8_swap]
  simp only [swap7, rq_swap]
  split
  · rfl
  · split
    · rfl
    · split <;> rfl
theorem inS_swap (m : Int) (neg : Bool) (c : Nat) (e : Int) (b : Nat) (p : Int) : inS (swapM m) (!neg) c e b p = (inS m neg c e b p).flip := by
  unfold inS
  simp only [good8_swap, swap7, rq_swap]
  generalize (if p < e then p else e) = F
  split
  · rfl
  · split
    · rfl
    · split <;> rfl
theorem rdS_swap (p : Pat) (m : Int) (neg : Bool) (c : Nat) (e : Int) : rdS p (swapM m) (!neg) c e = (rdS p m neg c e).flip := by
  unfold rdS sgS
  split
  · split
    · rfl
    · exact plS_swap ..
  · split
    · exact inS_swap ..
    · exact plS_swap ..
theorem shS_swap (p : Pat) (m : Int) (neg : Bool) (s : List UInt8) (e : Int) : shS p (swapM m) (!neg) s e = (shS p m neg s e).flip := by
  unfold shS
  rw [good8_swap, rdS_swap]
  split
  · rfl
  · split
    · rfl
    · split
      · rfl
      · cases rdS p m neg (core (dv s)) (ne (dv s) (e + p.mult)) with
        | err k => rfl
        | ok n q E =>
          simp only [Rs.flip]
          split <;> rfl
/-- THE CONTRACT of ShapeSigned. -/
theorem con11 (s : List UInt8) (m : Int) (d : Dm) (hs : s.length < 1099511627776) (hd : d.s.length < 1099511627776) : Fn 11 [.str s, i64 m, d.av] (.bool true) := by
  have c17 := con17 (d := d) hs hd
  have c18 := con18
  have c30 := con30 d.neg d.s d.e
  have hp := cmpP_ok s
  generalize (patG s && Dm.in19 d) = g at c17
  generalize cmpP s = p at *
  have c15 := con15 hp.ok (m := m) (neg := d.neg) (s := d.s) (e := d.e)
  have c15b := con15 hp.ok (m := swapM m) (neg := !d.neg) (s := d.s) (e := d.e)
  rw [shS_swap] at c15b
  refine e11 (by simp) ?_
  simp only [Pat.av, items, Dm.av, D] at c17 c15 c15b c30
  simp only [ic11, D, Dm.av, wkA, Nat.reduceEqDiff, Nat.reduceAdd, Nat.reduceSub, Nat.reduceLeDiff, Nat.reduceLT, Nat.reduceBEq, Nat.reduceBNe, reduceCtorEq]
  refine callF c17 rfl ?_
  cases g with
  | false =>
    simp only [wkA, Nat.reduceEqDiff, Nat.reduceAdd, Nat.reduceSub, Nat.reduceLeDiff, Nat.reduceLT, Nat.reduceBEq, Nat.reduceBNe, reduceCtorEq, Bool.not_false]
    refine callF c18 rfl ?_
    simp only [wkA, Nat.reduceEqDiff, Nat.reduceAdd, Nat.reduceSub, Nat.reduceLeDiff, Nat.reduceLT, Nat.reduceBEq, Nat.reduceBNe, reduceCtorEq]
  | true =>
    simp only [wkA, Nat.reduceEqDiff, Nat.reduceAdd, Nat.reduceSub, Nat.reduceLeDiff, Nat.reduceLT, Nat.reduceBEq, Nat.reduceBNe, reduceCtorEq, Bool.not_true]
    simp only [ic11_4, wkA, Nat.reduceEqDiff, Nat.reduceAdd, Nat.reduceSub, Nat.reduceLeDiff, Nat.reduceLT, Nat.reduceBEq, Nat.reduceBNe, reduceCtorEq]
    have main : ∀ T : List (Nat × AV), (T = [(1, i64 m), (5, .box 5 0), (7, .box 7 0), (9, i64 (swapM m))] ∨ T = [(1, i64 m), (5, .box 5 0), (7, .box 7 0), (9, i64 (swapM m)), (29, .bool false)]) →
        VC e0 ic11_2 (retQ [(6, none)] (.bool true)) ⟨T, [(5, .box 23 [AV.bool d.neg, AV.str d.s, i64 d.e]), (7, .box 26 [AV.sl 2 (List.map itemA p.pre), AV.sl 2 (List.map itemA p.suf), AV.bool p.hasNeg, AV.sl 2 (List.map itemA p.npre), AV.sl 2 (List.map itemA p.nsuf), i64 p.minInt, i64 p.maxInt, i64 p.minFrac, i64 p.maxFrac, i64 p.minSig, i64 p.maxSig, i64 p.prim, i64 p.sec, AV.str p.inc, AV.bool p.sci, i64 p.minExp, AV.bool p.plusExp, i64 p.padAt, AV.int IntKind.i32 p.pad, i64 p.width])]⟩ := by
      rintro T hT
      cases hx : shS p m d.neg d.s d.e with
      | err k =>
        have hk := shS_err hx
        have ek : (k != 0) = true := by simp [hk]
        have ek2 : (k == k) = true := by simp
        rw [hx] at c15 c15b
        simp only [Rs.av, Rs.flip, zD, D] at c15 c15b
        rcases hT with rfl | rfl
        all_goals
          simp only [ic11_2, wkA, Nat.reduceEqDiff, Nat.reduceAdd, Nat.reduceSub, Nat.reduceLeDiff, Nat.reduceLT, Nat.reduceBEq, Nat.reduceBNe, reduceCtorEq]
          refine callF c15 rfl ?_
          simp only [wkA, Nat.reduceEqDiff, Nat.reduceAdd, Nat.reduceSub, Nat.reduceLeDiff, Nat.reduceLT, Nat.reduceBEq, Nat.reduceBNe, reduceCtorEq]
          refine callFD c30 rfl ?_
          simp only [wkA, Nat.reduceEqDiff, Nat.reduceAdd, Nat.reduceSub, Nat.reduceLeDiff, Nat.reduceLT, Nat.reduceBEq, Nat.reduceBNe, reduceCtorEq]
          refine callFD c15b rfl ?_
          simp only [wkA, Nat.reduceEqDiff, Nat.reduceAdd, Nat.reduceSub, Nat.reduceLeDiff, Nat.reduceLT, Nat.reduceBEq, Nat.reduceBNe, reduceCtorEq, ek]
          refine callF c18 rfl ?_
          simp only [wkA, Nat.reduceEqDiff, Nat.reduceAdd, Nat.reduceSub, Nat.reduceLeDiff, Nat.reduceLT, Nat.reduceBEq, Nat.reduceBNe, reduceCtorEq, ek2]
      | ok n q E =>
        obtain ⟨hn, _⟩ := shS_bd hp.ok hx
        subst hn
        have hrn := shS_rngd hx
        obtain ⟨ho, hl, he1, he2⟩ := goodD_ok (goodD_of hrn)
        have c20 := con20 hp.ok (neg := d.neg) ho (by omega) (by omega)
        have c20b := con20 hp.ok (neg := !d.neg) ho (by omega) (by omega)
        have c30b := con30 (!d.neg) (text (core q)) (ne q E)
        rw [Bool.not_not] at c30b
        rw [hx] at c15 c15b
        simp only [Rs.av, Rs.flip] at c15 c15b
        generalize rawL p (text (core (dv (text (core q))))) (ne (dv (text (core q))) (ne q E + p.mult)) = r at *
        simp only [N, D, Pat.av, items, layA, shA] at c15 c15b c20 c20b c30b
        generalize (if r.1 ++ r.2.1 = [] then [48] else r.1) = a at *
        have z0 : ((0 : Int) != 0) = false := rfl
        have z1 : ((0 : Int) == 0) = true := rfl
        have z2 : (a == a) = true := by simp
        have z3 : (r.2.1 == r.2.1) = true := by simp
        have z4 : (r.2.2 == r.2.2) = true := by simp
        have z5 : (d.neg != !d.neg) = true := by cases d.neg <;> rfl
        rcases hT with rfl | rfl
        all_goals
          simp only [ic11_2, wkA, Nat.reduceEqDiff, Nat.reduceAdd, Nat.reduceSub, Nat.reduceLeDiff, Nat.reduceLT, Nat.reduceBEq, Nat.reduceBNe, reduceCtorEq]
          refine callF c15 rfl ?_
          simp only [wkA, Nat.reduceEqDiff, Nat.reduceAdd, Nat.reduceSub, Nat.reduceLeDiff, Nat.reduceLT, Nat.reduceBEq, Nat.reduceBNe, reduceCtorEq]
          refine callFD c30 rfl ?_
          simp only [wkA, Nat.reduceEqDiff, Nat.reduceAdd, Nat.reduceSub, Nat.reduceLeDiff, Nat.reduceLT, Nat.reduceBEq, Nat.reduceBNe, reduceCtorEq]
          refine callFD c15b rfl ?_
          simp only [wkA, Nat.reduceEqDiff, Nat.reduceAdd, Nat.reduceSub, Nat.reduceLeDiff, Nat.reduceLT, Nat.reduceBEq, Nat.reduceBNe, reduceCtorEq, z0]
          simp only [ic11_1, wkA, Nat.reduceEqDiff, Nat.reduceAdd, Nat.reduceSub, Nat.reduceLeDiff, Nat.reduceLT, Nat.reduceBEq, Nat.reduceBNe, reduceCtorEq]
          refine callFD c20 rfl ?_
          simp only [wkA, Nat.reduceEqDiff, Nat.reduceAdd, Nat.reduceSub, Nat.reduceLeDiff, Nat.reduceLT, Nat.reduceBEq, Nat.reduceBNe, reduceCtorEq]
          refine callFD c20b rfl ?_
          simp only [wkA, Nat.reduceEqDiff, Nat.reduceAdd, Nat.reduceSub, Nat.reduceLeDiff, Nat.reduceLT, Nat.reduceBEq, Nat.reduceBNe, reduceCtorEq]
          refine callFD c18 rfl ?_
          simp only [wkA, Nat.reduceEqDiff, Nat.reduceAdd, Nat.reduceSub, Nat.reduceLeDiff, Nat.reduceLT, Nat.reduceBEq, Nat.reduceBNe, reduceCtorEq, z1]
          refine callFD c30b rfl ?_
          simp only [wkA, Nat.reduceEqDiff, Nat.reduceAdd, Nat.reduceSub, Nat.reduceLeDiff, Nat.reduceLT, Nat.reduceBEq, Nat.reduceBNe, reduceCtorEq, binV, eqD, ckind, z2, z3, z4, z5]
    by_cases h0 : m = 0
    · subst h0
      have e0' : ((0 : Int) == 0) = true := rfl
      have e1' : ((0 : Int) == 1) = false := rfl
      simp only [wkA, Nat.reduceEqDiff, Nat.reduceAdd, Nat.reduceSub, Nat.reduceLeDiff, Nat.reduceLT, Nat.reduceBEq, Nat.reduceBNe, reduceCtorEq, e0']
      simp only [ic11_3, wkA, Nat.reduceEqDiff, Nat.reduceAdd, Nat.reduceSub, Nat.reduceLeDiff, Nat.reduceLT, Nat.reduceBEq, Nat.reduceBNe, reduceCtorEq, e1']
      exact main _ (.inr rfl)
    · have e0' : (m == 0) = false := by simp [h0]
      by_cases h1 : m = 1
      · subst h1
        have e1' : ((1 : Int) == 1) = true := rfl
        simp only [wkA, Nat.reduceEqDiff, Nat.reduceAdd, Nat.reduceSub, Nat.reduceLeDiff, Nat.reduceLT, Nat.reduceBEq, Nat.reduceBNe, reduceCtorEq, e0']
        simp only [ic11_3, wkA, Nat.reduceEqDiff, Nat.reduceAdd, Nat.reduceSub, Nat.reduceLeDiff, Nat.reduceLT, Nat.reduceBEq, Nat.reduceBNe, reduceCtorEq, e1']
        exact main _ (.inl rfl)
      · have e1' : (m == 1) = false := by simp [h1]
        have hsw : swapM m = m := by unfold swapM; rw [if_neg h1, if_neg h0]
        rw [hsw] at main
        simp only [wkA, Nat.reduceEqDiff, Nat.reduceAdd, Nat.reduceSub, Nat.reduceLeDiff, Nat.reduceLT, Nat.reduceBEq, Nat.reduceBNe, reduceCtorEq, e0']
        simp only [ic11_3, wkA, Nat.reduceEqDiff, Nat.reduceAdd, Nat.reduceSub, Nat.reduceLeDiff, Nat.reduceLT, Nat.reduceBEq, Nat.reduceBNe, reduceCtorEq, e1']
        exact main _ (.inr rfl)
end Go.Proofs.YtgehlcgjchfibaaGreatDoor.F
