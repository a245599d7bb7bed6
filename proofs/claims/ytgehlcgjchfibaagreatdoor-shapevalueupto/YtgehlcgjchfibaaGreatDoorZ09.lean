/-
  What the functions that the laws call compute, for every input that the statements allow (part 9): for the claims up to a bulk of 1048576.
-/
import Derived.Test.YtgehlcgjchfibaaGreatDoorZ08
set_option linter.unusedVariables false
set_option linter.unusedSimpArgs false
set_option maxRecDepth 100000
set_option linter.defProp false
set_option maxHeartbeats 4000000
namespace Go.Proofs.YtgehlcgjchfibaaGreatDoor.F
end Go.Proofs.YtgehlcgjchfibaaGreatDoor.F
namespace Go.Proofs.YtgehlcgjchfibaaGreatDoor.F
theorem shS_err {p : Pat} {m : Int} {neg : Bool} {s : List UInt8} {e k : Int} (h : shS p m neg s e = .err k) : k ≠ 0 := by
  unfold shS at h
  split at h
  · injection h with h; omega
  · split at h
    · injection h with h; omega
    · split at h
      · injection h with h; omega
      · split at h
        · rename_i k' hk
          injection h with h
          have := rdS_err hk
          omega
        · split at h
          · cases h
          · injection h with h; omega
theorem shS_ok {p : Pat} {m : Int} {neg n : Bool} {s : List UInt8} {e : Int} {q : Nat} {E : Int} (h : shS p m neg s e = .ok n q E) :
    goodD s e = true ∧ rdS p m neg (core (dv s)) (ne (dv s) (e + p.mult)) = .ok n q (E + p.mult) := by
  unfold shS at h
  split at h
  · cases h
  · split at h
    · cases h
    · rename_i hg
      split at h
      · cases h
      · split at h
        · cases h
        · rename_i n' q' E' hr
          split at h
          · injection h with h1 h2 h3
            subst h1 h2 h3
            rw [hr]
            exact ⟨by simpa using hg, by congr 1; omega⟩
          · cases h
end Go.Proofs.YtgehlcgjchfibaaGreatDoor.F
namespace Go.Proofs.YtgehlcgjchfibaaGreatDoor.F
open Go Go.RowKit Go.Proofs
theorem ne_shift (q : Nat) (E k : Int) : ne (core q) (ne q E + k) = ne q (E + k) := by
  by_cases h : q = 0
  · subst h; rw [core_zero, ne_zero, ne_zero]
  · have h1 := ne_core q E
    have h2 := core_ne h
    rw [ne_pos h2, ne_pos h] at h1
    rw [ne_pos h2, ne_pos h, ne_pos h]
    omega
theorem goodD_of {q : Nat} {E : Int} (h : rngd q E = true) : goodD (text (core q)) (ne q E) = true := by
  by_cases h0 : q = 0
  · subst h0; rw [core_zero, ne_zero]; decide +kernel
  · unfold rngd at h
    simp only [h0, decide_false, Bool.false_or, Bool.and_eq_true, decide_eq_true_eq] at h
    have h1 := core_ne h0
    have h2 := top_core q E
    unfold top at h2 h
    rw [if_neg h1] at h2
    rw [if_neg h0] at h h2
    have hl := text_len (core q)
    have hk := okN (c := core q) (e := ne q E) (by omega) (by omega)
    rw [core_core, ne_core] at hk
    unfold goodD
    simp only [Bool.and_eq_true, decide_eq_true_eq]
    have hn := nd_ne h1
    refine ⟨⟨⟨by omega, by omega⟩, by omega⟩, hk.1, hk.2.1⟩
theorem shS_rngd {p : Pat} {m : Int} {neg n : Bool} {s : List UInt8} {e : Int} {q : Nat} {E : Int} (h : shS p m neg s e = .ok n q E) : rngd q E = true := by
  unfold shS at h
  split at h
  · cases h
  · split at h
    · cases h
    · split at h
      · cases h
      · split at h
        · cases h
        · split at h
          · rename_i hr
            injection h with h1 h2 h3
            subst h2 h3
            exact hr
          · cases h
theorem eqD (neg : Bool) (s : List UInt8) (e : Int) : eqCells [AV.bool neg, .str s, i64 e] [AV.bool neg, .str s, i64 e] = some true := by
  simp [eqCells, eqCell]
def dgt (n k : Nat) : Nat := n / 10 ^ k % 10
theorem dgt_lt (n k : Nat) : dgt n k < 10 := Nat.mod_lt _ (by decide)
theorem dgt_get {s : List UInt8} (h : dgs s = true) {k : Nat} (hk : k < s.length) : dgt (dv s) k = (s.getD (s.length - 1 - k) 0).toNat - 48 := by
  have hi : s.length - 1 - k < s.length := by omega
  have hc := isDg_iff.1 (dgs_get h hi)
  have hsp : s = s.take (s.length - 1 - k) ++ ([s.getD (s.length - 1 - k) 0] ++ s.drop (s.length - 1 - k + 1)) := by
    conv => lhs; rw [← List.take_append_drop (s.length - 1 - k) s]
    rw [List.drop_eq_getElem_cons hi, List.getD_eq_getElem?_getD, List.getElem?_eq_getElem hi]
    rfl
  have hdl : (s.drop (s.length - 1 - k + 1)).length = k := by rw [List.length_drop]; omega
  have hlt := dv_lt (dgs_sub h (List.drop_subset (s.length - 1 - k + 1) s))
  rw [hdl] at hlt
  unfold dgt
  generalize s.getD (s.length - 1 - k) 0 = c at *
  generalize s.drop (s.length - 1 - k + 1) = t at *
  rw [hsp, dv_append, dv_append, dv_one, List.length_append, List.length_singleton, hdl]
  have hp : 0 < 10 ^ k := Nat.pow_pos (by decide)
  generalize dv (s.take (s.length - 1 - k)) = A
  have : A * 10 ^ (1 + k) + ((c.toNat - 48) * 10 ^ k + dv t) = dv t + 10 ^ k * (A * 10 + (c.toNat - 48)) := by
    rw [Nat.pow_add, Nat.mul_add, Nat.mul_comm (10 ^ k) (c.toNat - 48), show A * (10 ^ 1 * 10 ^ k) = 10 ^ k * (A * 10) by rw [Nat.pow_one, ← Nat.mul_assoc, Nat.mul_comm]]
    omega
  rw [this, Nat.add_mul_div_left _ _ hp, Nat.div_eq_of_lt hlt]
  omega
theorem dgt_zero {n k : Nat} (h : n < 10 ^ k) : dgt n k = 0 := by unfold dgt; rw [Nat.div_eq_of_lt h]
theorem con139 {s : List UInt8} (h : dgs s = true) (hl : s.length < 1000000) {k : Nat} (hk : k < 1000000) : Fn 139 [.str s, i64 k] (i64 (dgt (dv s) k)) := by
  refine e139 (by simp) ?_
  by_cases hlt : k < s.length
  · have e0 : decide ((k : Int) ≥ (s.length : Int)) = false := decide_eq_false (by omega)
    have w1 : IntKind.i64.wrap ((s.length : Int) - 1) = (s.length : Int) - 1 := by rw [wrap64] <;> omega
    have w2 : IntKind.i64.wrap ((s.length : Int) - 1 - k) = ((s.length - 1 - k : Nat) : Int) := by rw [wrap64] <;> omega
    have hc := isDg_iff.1 (dgs_get h (i := s.length - 1 - k) (by omega))
    have w3 : IntKind.u8.wrap (((s.getD (s.length - 1 - k) 0).toNat : Nat) - 48 : Int) = ((s.getD (s.length - 1 - k) 0).toNat - 48 : Nat) := by
      simp only [IntKind.wrap, IntKind.signed, IntKind.bits, Bool.false_and, Bool.false_eq_true, if_false]
      omega
    have w4 : IntKind.i64.wrap ((s.getD (s.length - 1 - k) 0).toNat - 48 : Nat) = ((s.getD (s.length - 1 - k) 0).toNat - 48 : Nat) := by rw [wrap64] <;> omega
    rw [dgt_get h hlt]
    simp only [ic139, wkA, Nat.reduceEqDiff, Nat.reduceAdd, Nat.reduceSub, Nat.reduceLeDiff, Nat.reduceLT, Nat.reduceBEq, Nat.reduceBNe, reduceCtorEq, e0]
    simp only [ic139_1, wkA, Nat.reduceEqDiff, Nat.reduceAdd, Nat.reduceSub, Nat.reduceLeDiff, Nat.reduceLT, Nat.reduceBEq, Nat.reduceBNe, reduceCtorEq, w1, w2, Int.toNat_natCast, w3, w4]
    omega
  · have e0 : decide ((k : Int) ≥ (s.length : Int)) = true := decide_eq_true (by omega)
    rw [dgt_zero (Nat.lt_of_lt_of_le (dv_lt h) (Nat.pow_le_pow_right (by decide) (by omega)))]
    simp only [ic139, wkA, Nat.reduceEqDiff, Nat.reduceAdd, Nat.reduceSub, Nat.reduceLeDiff, Nat.reduceLT, Nat.reduceBEq, Nat.reduceBNe, reduceCtorEq, e0]
    rfl
def I140 (b : List UInt8) (n : Nat) (st : St) : Prop := ∃ k, n = b.length - k ∧ k ≤ b.length ∧
  st = ⟨[(0, .sl 1 (bts b)), (3, .own 18), (4, i64 ((b.length : Int) - 1 - k))], [(18, .row 5 1 (bts (b.reverse.take k)))]⟩
theorem con140 {b : List UInt8} (hl : b.length < 1000000) : Fn 140 [.sl 1 (bts b)] (.str b.reverse) := by
  refine e140 (by simp) ?_
  have hbl : (bts b).length = b.length := by simp [bts]
  have w1 : IntKind.i64.wrap ((b.length : Int) - 1) = (b.length : Int) - 1 := by rw [wrap64] <;> omega
  simp only [ic140, wkA, Nat.reduceEqDiff, Nat.reduceAdd, Nat.reduceSub, Nat.reduceLeDiff, Nat.reduceLT, Nat.reduceBEq, Nat.reduceBNe, reduceCtorEq, hbl, w1]
  refine ⟨I140 b, b.length, ⟨[(0, .sl 1 (bts b)), (3, .own 18), (4, i64 ((b.length : Int) - 1))], [(18, .row 5 1 [])]⟩, ?_, ⟨0, by omega, by omega, by simp [bts]⟩, ?_⟩
  · have := Gh.own (s := ⟨[(0, .sl 1 (bts b)), (3, .nil), (4, i64 ((b.length : Int) - 1))], []⟩) (t := 3) 5 1 18 rfl (by decide)
    refine this.trans ?_
    refine (Gh.keep _ [0, 3, 4] [18]).trans ?_
    simp only [wkA, Nat.reduceEqDiff, Nat.reduceAdd, Nat.reduceSub, Nat.reduceLeDiff, Nat.reduceLT, Nat.reduceBEq, Nat.reduceBNe, reduceCtorEq]
    exact Gh.refl _
  · rintro n st ⟨k, rfl, hk, rfl⟩
    by_cases hlt : k < b.length
    · have e0 : decide ((b.length : Int) - 1 - k ≥ 0) = true := decide_eq_true (by omega)
      have w2 : IntKind.i64.wrap ((b.length : Int) - 1 - k - 1) = (b.length : Int) - 1 - ((k + 1 : Nat) : Int) := by rw [wrap64] <;> omega
      have hn : ((b.length : Int) - 1 - k).toNat = b.length - 1 - k := by omega
      have hg : (bts b).getD (b.length - 1 - k) .top = byteAV (b.getD (b.length - 1 - k) 0) := by
        have hi : b.length - 1 - k < b.length := by omega
        simp [bts, List.getD_eq_getElem?_getD, hi]
      have ht : b.reverse.take (k + 1) = b.reverse.take k ++ [b.getD (b.length - 1 - k) 0] := by
        rw [take_succ_get (by simpa using hlt)]
        congr 2
        rw [List.getD_eq_getElem?_getD, List.getD_eq_getElem?_getD, List.getElem?_reverse hlt]
      have hb : (bts (b.reverse.take k)).length = k := by simp [bts]; omega
      simp only [ic140_2, wkA, Nat.reduceEqDiff, Nat.reduceAdd, Nat.reduceSub, Nat.reduceLeDiff, Nat.reduceLT, Nat.reduceBEq, Nat.reduceBNe, reduceCtorEq, e0]
      simp only [ic140_1, wkA, Nat.reduceEqDiff, Nat.reduceAdd, Nat.reduceSub, Nat.reduceLeDiff, Nat.reduceLT, Nat.reduceBEq, Nat.reduceBNe, reduceCtorEq, hn, hg, hbl, hb, w2, byteAV]
      refine ⟨⟨by omega, by omega⟩, ⟨by omega, by omega⟩, _, b.length - (k + 1), Gh.refl _, by omega, k + 1, rfl, by omega, ?_⟩
      rw [ht]
      simp [bts, byteAV]
    · have e0 : decide ((b.length : Int) - 1 - k ≥ 0) = false := decide_eq_false (by omega)
      have ht : b.reverse.take k = b.reverse := List.take_of_length_le (by simp; omega)
      simp only [ic140_2, wkA, Nat.reduceEqDiff, Nat.reduceAdd, Nat.reduceSub, Nat.reduceLeDiff, Nat.reduceLT, Nat.reduceBEq, Nat.reduceBNe, reduceCtorEq, e0]
      rw [ht]
      simp only [ic140_3, wkA, Nat.reduceEqDiff, Nat.reduceAdd, Nat.reduceSub, Nat.reduceLeDiff, Nat.reduceLT, Nat.reduceBEq, Nat.reduceBNe, reduceCtorEq, bts_map]
      exact bts_ok _
def pdig (S k : Nat) : List UInt8 := (List.range k).map fun j => UInt8.ofNat (48 + dgt S j)
theorem pdig_succ (S k : Nat) : pdig S (k + 1) = pdig S k ++ [UInt8.ofNat (48 + dgt S k)] := by simp [pdig, List.range_succ]
theorem pdig_len (S k : Nat) : (pdig S k).length = k := by simp [pdig]
theorem ofNat_dg (n : Nat) (h : n < 10) : (UInt8.ofNat (48 + n)).toNat = 48 + n := by rw [UInt8.toNat_ofNat']; omega
theorem pdig_dgs (S k : Nat) : dgs (pdig S k).reverse = true := by
  refine dgs_mem.2 fun c hc => ?_
  rw [List.mem_reverse] at hc
  obtain ⟨j, _, rfl⟩ := List.mem_map.1 hc
  rw [isDg_iff, ofNat_dg _ (dgt_lt _ _)]
  have := dgt_lt S j
  omega
theorem pdig_dv (S k : Nat) : dv (pdig S k).reverse = S % 10 ^ k := by
  induction k with
  | zero => simp [pdig, dv, Nat.mod_one]
  | succ k ih =>
    rw [pdig_succ, List.reverse_append, List.reverse_singleton, dv_append, ih, dv_one, List.length_reverse, pdig_len, ofNat_dg _ (dgt_lt _ _), Nat.pow_succ, Nat.mod_mul, Nat.add_sub_cancel_left, Nat.mul_comm]
    unfold dgt
    omega
theorem pdig_strip {S k : Nat} (h : S < 10 ^ k) : strip (pdig S k).reverse = digs S := by
  rw [← digs_dv (pdig_dgs S k), pdig_dv, Nat.mod_eq_of_lt h]
def cry (A B k : Nat) : Nat := (A % 10 ^ k + B % 10 ^ k) / 10 ^ k
theorem cry_le (A B k : Nat) : cry A B k ≤ 1 := by
  unfold cry
  have hp : 0 < 10 ^ k := Nat.pow_pos (by decide)
  have h1 := Nat.mod_lt A hp
  have h2 := Nat.mod_lt B hp
  have : (A % 10 ^ k + B % 10 ^ k) / 10 ^ k < 2 := (Nat.div_lt_iff_lt_mul hp).2 (by omega)
  omega
theorem cry_dgt (A B k : Nat) : (dgt A k + dgt B k + cry A B k) % 10 = dgt (A + B) k := by
  have hp : 0 < 10 ^ k := Nat.pow_pos (by decide)
  have : (A + B) / 10 ^ k = A / 10 ^ k + B / 10 ^ k + cry A B k := by
    unfold cry
    have h1 := Nat.div_add_mod A (10 ^ k)
    have h2 := Nat.div_add_mod B (10 ^ k)
    have : A + B = (A % 10 ^ k + B % 10 ^ k) + 10 ^ k * (A / 10 ^ k + B / 10 ^ k) := by rw [Nat.mul_add]; omega
    conv => lhs; rw [this]
    rw [Nat.add_mul_div_left _ _ hp]
    omega
  unfold dgt
  rw [this]
  omega
theorem cry_succ (A B k : Nat) : (dgt A k + dgt B k + cry A B k) / 10 = cry A B (k + 1) := by
  have hp : 0 < 10 ^ k := Nat.pow_pos (by decide)
  unfold cry
  rw [Nat.pow_succ, Nat.mod_mul, Nat.mod_mul, ← Nat.div_div_eq_div_mul]
  have : A % 10 ^ k + 10 ^ k * (A / 10 ^ k % 10) + (B % 10 ^ k + 10 ^ k * (B / 10 ^ k % 10)) = (A % 10 ^ k + B % 10 ^ k) + 10 ^ k * (A / 10 ^ k % 10 + B / 10 ^ k % 10) := by rw [Nat.mul_add]; omega
  rw [this, Nat.add_mul_div_left _ _ hp]
  unfold dgt
  congr 1
  omega
def I108 (a b : List UInt8) (M n : Nat) (st : St) : Prop := ∃ k, n = M - k ∧ k ≤ M ∧
  st = ⟨[(0, .str a), (1, .str b), (5, .own 40), (6, i64 (cry (dv a) (dv b) k)), (7, i64 k)], [(40, .row 5 1 (bts (pdig (dv a + dv b) k)))]⟩
theorem con108 {a b : List UInt8} (ha : dgs a = true) (hb : dgs b = true) (la : a.length < 900000) (lb : b.length < 900000) : Fn 108 [.str a, .str b] (.str (digs (dv a + dv b))) := by
  have hA := dv_lt ha
  have hB := dv_lt hb
  obtain ⟨M, hM⟩ : ∃ M, M = max a.length b.length + 1 := ⟨_, rfl⟩
  have hS : dv a + dv b < 10 ^ M := by
    have h1 : 10 ^ a.length ≤ 10 ^ (max a.length b.length) := Nat.pow_le_pow_right (by decide) (Nat.le_max_left _ _)
    have h2 : 10 ^ b.length ≤ 10 ^ (max a.length b.length) := Nat.pow_le_pow_right (by decide) (Nat.le_max_right _ _)
    rw [hM, Nat.pow_succ]
    omega
  refine e108 (by simp) ?_
  simp only [ic108, wkA, Nat.reduceEqDiff, Nat.reduceAdd, Nat.reduceSub, Nat.reduceLeDiff, Nat.reduceLT, Nat.reduceBEq, Nat.reduceBNe, reduceCtorEq]
  refine ⟨I108 a b M, M, ⟨[(0, .str a), (1, .str b), (5, .own 40), (6, i64 0), (7, i64 0)], [(40, .row 5 1 [])]⟩, ?_, ⟨0, by omega, by omega, by simp [bts, pdig, cry, Nat.mod_one]⟩, ?_⟩
  · have := Gh.own (s := ⟨[(0, .str a), (1, .str b), (5, .nil), (6, i64 0), (7, i64 0)], []⟩) (t := 5) 5 1 40 rfl (by decide)
    refine this.trans ?_
    refine (Gh.keep _ [0, 1, 5, 6, 7] [40]).trans ?_
    simp only [wkA, Nat.reduceEqDiff, Nat.reduceAdd, Nat.reduceSub, Nat.reduceLeDiff, Nat.reduceLT, Nat.reduceBEq, Nat.reduceBNe, reduceCtorEq]
    exact Gh.refl _
  · rintro n st ⟨k, rfl, hk, rfl⟩
    have c1 := cry_le (dv a) (dv b) k
    have d1 := dgt_lt (dv a) k
    have d2 := dgt_lt (dv b) k
    have q1 := con139 ha (by omega) (k := k) (by omega)
    have q2 := con139 hb (by omega) (k := k) (by omega)
    have r1 := cry_dgt (dv a) (dv b) k
    have r2 := cry_succ (dv a) (dv b) k
    have hend : ¬ k < a.length → ¬ k < b.length → cry (dv a) (dv b) k = 0 → dv a + dv b < 10 ^ k := by
      intro h1 h2 h3
      have e1 : dv a < 10 ^ k := Nat.lt_of_lt_of_le hA (Nat.pow_le_pow_right (by decide) (by omega))
      have e2 : dv b < 10 ^ k := Nat.lt_of_lt_of_le hB (Nat.pow_le_pow_right (by decide) (by omega))
      unfold cry at h3
      rw [Nat.mod_eq_of_lt e1, Nat.mod_eq_of_lt e2] at h3
      have := (Nat.div_eq_zero_iff).1 h3
      rcases this with h | h
      · exact absurd h (by simp)
      · exact h
    have hgo : (k < a.length ∨ k < b.length ∨ 0 < cry (dv a) (dv b) k) → k < M := by
      intro h
      refine Classical.byContradiction fun hn => ?_
      have hkM : k = M := by omega
      have m1 : a.length ≤ max a.length b.length := Nat.le_max_left _ _
      have m2 : b.length ≤ max a.length b.length := Nat.le_max_right _ _
      rcases h with h | h | h
      · omega
      · omega
      · have : cry (dv a) (dv b) k = 0 := by
          unfold cry
          rw [hkM]
          rw [Nat.mod_eq_of_lt (by omega), Nat.mod_eq_of_lt (by omega)]
          exact Nat.div_eq_of_lt hS
        omega
    have hbl : (bts (pdig (dv a + dv b) k)).length = k := by simp [bts, pdig_len]
    have hbs : bts (pdig (dv a + dv b) (k + 1)) = bts (pdig (dv a + dv b) k) ++ [.int .u8 ((48 + dgt (dv a + dv b) k : Nat) : Int)] := by
      rw [pdig_succ]
      simp only [bts, List.map_append, List.map_cons, List.map_nil, byteAV]
      rw [ofNat_dg _ (dgt_lt _ _)]
    generalize hc : cry (dv a) (dv b) k = c at *
    generalize hda : dgt (dv a) k = da at *
    generalize hdb : dgt (dv b) k = db at *
    generalize hds : dgt (dv a + dv b) k = ds at *
    have d3 : ds < 10 := by rw [← hds]; exact dgt_lt _ _
    have w1 : IntKind.i64.wrap ((da : Int) + db) = ((da + db : Nat) : Int) := by rw [wrap64] <;> omega
    have w2 : IntKind.i64.wrap (((da + db : Nat) : Int) + c) = ((da + db + c : Nat) : Int) := by rw [wrap64] <;> omega
    have w3 : ((da + db + c : Nat) : Int).tmod 10 = (ds : Int) := by rw [← r1]; exact Int.ofNat_tmod _ _
    have w4 : IntKind.i64.wrap (48 + (ds : Int)) = ((48 + ds : Nat) : Int) := by rw [wrap64] <;> omega
    have w5 : IntKind.u8.wrap ((48 + ds : Nat) : Int) = ((48 + ds : Nat) : Int) := by
      simp only [IntKind.wrap, IntKind.signed, IntKind.bits, Bool.false_and, Bool.false_eq_true, if_false]
      omega
    have w6 : IntKind.i64.wrap (((da + db + c : Nat) : Int).tdiv 10) = ((cry (dv a) (dv b) (k + 1) : Nat) : Int) := by
      rw [← r2, show ((da + db + c : Nat) : Int).tdiv 10 = (((da + db + c) / 10 : Nat) : Int) from Int.ofNat_tdiv _ _, wrap64] <;> omega
    have w7 : IntKind.i64.wrap ((k : Int) + 1) = ((k + 1 : Nat) : Int) := by rw [wrap64] <;> omega
    have ten : ¬ (10 : Int) = 0 := by decide
    by_cases h1 : k < a.length
    · have e1 : decide ((k : Int) < (a.length : Int)) = true := decide_eq_true (by omega)
      have hkm := hgo (.inl h1)
      simp only [ic108_2, wkA, Nat.reduceEqDiff, Nat.reduceAdd, Nat.reduceSub, Nat.reduceLeDiff, Nat.reduceLT, Nat.reduceBEq, Nat.reduceBNe, reduceCtorEq, e1]
      simp only [ic108_1, wkA, Nat.reduceEqDiff, Nat.reduceAdd, Nat.reduceSub, Nat.reduceLeDiff, Nat.reduceLT, Nat.reduceBEq, Nat.reduceBNe, reduceCtorEq]
      refine callF q1 rfl ?_
      simp only [wkA, Nat.reduceEqDiff, Nat.reduceAdd, Nat.reduceSub, Nat.reduceLeDiff, Nat.reduceLT, Nat.reduceBEq, Nat.reduceBNe, reduceCtorEq]
      refine callF q2 rfl ?_
      simp only [wkA, Nat.reduceEqDiff, Nat.reduceAdd, Nat.reduceSub, Nat.reduceLeDiff, Nat.reduceLT, Nat.reduceBEq, Nat.reduceBNe, reduceCtorEq, w1, w2, w3, w4, w5, w6, w7, hbl]
      refine ⟨ten, ⟨by omega, by omega⟩, ten, _, M - (k + 1), Gh.refl _, by omega, k + 1, rfl, by omega, ?_⟩
      rw [hbs]
    · have e1 : decide ((k : Int) < (a.length : Int)) = false := decide_eq_false (by omega)
      by_cases h2 : k < b.length
      · have e2 : decide ((k : Int) < (b.length : Int)) = true := decide_eq_true (by omega)
        have hkm := hgo (.inr (.inl h2))
        simp only [ic108_2, wkA, Nat.reduceEqDiff, Nat.reduceAdd, Nat.reduceSub, Nat.reduceLeDiff, Nat.reduceLT, Nat.reduceBEq, Nat.reduceBNe, reduceCtorEq, e1, e2]
        simp only [ic108_1, wkA, Nat.reduceEqDiff, Nat.reduceAdd, Nat.reduceSub, Nat.reduceLeDiff, Nat.reduceLT, Nat.reduceBEq, Nat.reduceBNe, reduceCtorEq]
        refine callF q1 rfl ?_
        simp only [wkA, Nat.reduceEqDiff, Nat.reduceAdd, Nat.reduceSub, Nat.reduceLeDiff, Nat.reduceLT, Nat.reduceBEq, Nat.reduceBNe, reduceCtorEq]
        refine callF q2 rfl ?_
        simp only [wkA, Nat.reduceEqDiff, Nat.reduceAdd, Nat.reduceSub, Nat.reduceLeDiff, Nat.reduceLT, Nat.reduceBEq, Nat.reduceBNe, reduceCtorEq, w1, w2, w3, w4, w5, w6, w7, hbl]
        refine ⟨ten, ⟨by omega, by omega⟩, ten, _, M - (k + 1), Gh.refl _, by omega, k + 1, rfl, by omega, ?_⟩
        rw [hbs]
      · have e2 : decide ((k : Int) < (b.length : Int)) = false := decide_eq_false (by omega)
        by_cases h3 : 0 < c
        · have e3 : decide ((c : Int) > 0) = true := decide_eq_true (by omega)
          have hkm := hgo (.inr (.inr h3))
          simp only [ic108_2, wkA, Nat.reduceEqDiff, Nat.reduceAdd, Nat.reduceSub, Nat.reduceLeDiff, Nat.reduceLT, Nat.reduceBEq, Nat.reduceBNe, reduceCtorEq, e1, e2, e3]
          simp only [ic108_1, wkA, Nat.reduceEqDiff, Nat.reduceAdd, Nat.reduceSub, Nat.reduceLeDiff, Nat.reduceLT, Nat.reduceBEq, Nat.reduceBNe, reduceCtorEq]
          refine callF q1 rfl ?_
          simp only [wkA, Nat.reduceEqDiff, Nat.reduceAdd, Nat.reduceSub, Nat.reduceLeDiff, Nat.reduceLT, Nat.reduceBEq, Nat.reduceBNe, reduceCtorEq]
          refine callF q2 rfl ?_
          simp only [wkA, Nat.reduceEqDiff, Nat.reduceAdd, Nat.reduceSub, Nat.reduceLeDiff, Nat.reduceLT, Nat.reduceBEq, Nat.reduceBNe, reduceCtorEq, w1, w2, w3, w4, w5, w6, w7, hbl]
          refine ⟨ten, ⟨by omega, by omega⟩, ten, _, M - (k + 1), Gh.refl _, by omega, k + 1, rfl, by omega, ?_⟩
          rw [hbs]
        · have e3 : decide ((c : Int) > 0) = false := decide_eq_false (by omega)
          have hlt := hend h1 h2 (by omega)
          have c140 := con140 (b := pdig (dv a + dv b) k) (by rw [pdig_len]; omega)
          have c59 := con59 (pdig (dv a + dv b) k).reverse (by rw [List.length_reverse, pdig_len]; omega)
          rw [pdig_strip hlt] at c59
          simp only [ic108_2, wkA, Nat.reduceEqDiff, Nat.reduceAdd, Nat.reduceSub, Nat.reduceLeDiff, Nat.reduceLT, Nat.reduceBEq, Nat.reduceBNe, reduceCtorEq, e1, e2, e3]
          simp only [ic108_3, wkA, Nat.reduceEqDiff, Nat.reduceAdd, Nat.reduceSub, Nat.reduceLeDiff, Nat.reduceLT, Nat.reduceBEq, Nat.reduceBNe, reduceCtorEq]
          refine callF c140 rfl ?_
          simp only [wkA, Nat.reduceEqDiff, Nat.reduceAdd, Nat.reduceSub, Nat.reduceLeDiff, Nat.reduceLT, Nat.reduceBEq, Nat.reduceBNe, reduceCtorEq]
          refine callF c59 rfl ?_
          simp only [wkA, Nat.reduceEqDiff, Nat.reduceAdd, Nat.reduceSub, Nat.reduceLeDiff, Nat.reduceLT, Nat.reduceBEq, Nat.reduceBNe, reduceCtorEq]
def I138 (a b : List UInt8) (D : Nat) (n : Nat) (st : St) : Prop := ∃ k, n = a.length - k ∧ k ≤ a.length ∧
  st = ⟨[(0, .str a), (1, .str b), (5, .own 33), (6, i64 (cry (dv b) D k)), (7, i64 k)], [(33, .row 5 1 (bts (pdig D k)))]⟩
theorem con138 {a b : List UInt8} (ha : dgs a = true) (hb : dgs b = true) (la : a.length < 900000) (lb : b.length < 900000) (hle : dv b ≤ dv a) : Fn 138 [.str a, .str b] (.str (digs (dv a - dv b))) := by
  have hA := dv_lt ha
  obtain ⟨D', hD⟩ : ∃ D', dv a - dv b = D' := ⟨_, rfl⟩
  have hAD : dv a = dv b + D' := by omega
  rw [hD]
  refine e138 (by simp) ?_
  simp only [ic138, wkA, Nat.reduceEqDiff, Nat.reduceAdd, Nat.reduceSub, Nat.reduceLeDiff, Nat.reduceLT, Nat.reduceBEq, Nat.reduceBNe, reduceCtorEq]
  refine ⟨I138 a b D', a.length, ⟨[(0, .str a), (1, .str b), (5, .own 33), (6, i64 0), (7, i64 0)], [(33, .row 5 1 [])]⟩, ?_, ⟨0, by omega, by omega, by simp [bts, pdig, cry, Nat.mod_one]⟩, ?_⟩
  · have := Gh.own (s := ⟨[(0, .str a), (1, .str b), (5, .nil), (6, i64 0), (7, i64 0)], []⟩) (t := 5) 5 1 33 rfl (by decide)
    refine this.trans ?_
    refine (Gh.keep _ [0, 1, 5, 6, 7] [33]).trans ?_
    simp only [wkA, Nat.reduceEqDiff, Nat.reduceAdd, Nat.reduceSub, Nat.reduceLeDiff, Nat.reduceLT, Nat.reduceBEq, Nat.reduceBNe, reduceCtorEq]
    exact Gh.refl _
  · rintro n st ⟨k, rfl, hk, rfl⟩
    have c1 := cry_le (dv b) D' k
    have d1 := dgt_lt (dv a) k
    have d2 := dgt_lt (dv b) k
    have d3 := dgt_lt D' k
    have q1 := con139 ha (by omega) (k := k) (by omega)
    have q2 := con139 hb (by omega) (k := k) (by omega)
    have r1 := cry_dgt (dv b) D' k
    have r2 := cry_succ (dv b) D' k
    rw [← hAD] at r1
    have hbl : (bts (pdig D' k)).length = k := by simp [bts, pdig_len]
    have hbs : bts (pdig D' (k + 1)) = bts (pdig D' k) ++ [.int .u8 ((48 + dgt D' k : Nat) : Int)] := by
      rw [pdig_succ]
      simp only [bts, List.map_append, List.map_cons, List.map_nil, byteAV]
      rw [ofNat_dg _ (dgt_lt _ _)]
    by_cases hlt : k < a.length
    · have e1 : decide ((k : Int) < (a.length : Int)) = true := decide_eq_true (by omega)
      generalize hc : cry (dv b) D' k = c at *
      generalize hda : dgt (dv a) k = da at *
      generalize hdb : dgt (dv b) k = db at *
      generalize hdd : dgt D' k = dd at *
      have w1 : IntKind.i64.wrap ((da : Int) - db) = (da : Int) - db := by rw [wrap64] <;> omega
      have w2 : IntKind.i64.wrap ((da : Int) - db - c) = (da : Int) - db - c := by rw [wrap64] <;> omega
      have w3 : IntKind.i64.wrap ((da : Int) - db - c + 10) = (da : Int) - db - c + 10 := by rw [wrap64] <;> omega
      have w4 : IntKind.i64.wrap (48 + (dd : Int)) = ((48 + dd : Nat) : Int) := by rw [wrap64] <;> omega
      have w5 : IntKind.u8.wrap ((48 + dd : Nat) : Int) = ((48 + dd : Nat) : Int) := by
        simp only [IntKind.wrap, IntKind.signed, IntKind.bits, Bool.false_and, Bool.false_eq_true, if_false]
        omega
      have w8 : IntKind.i64.wrap (dd : Int) = dd := by rw [wrap64] <;> omega
      have w7 : IntKind.i64.wrap ((k : Int) + 1) = ((k + 1 : Nat) : Int) := by rw [wrap64] <;> omega
      by_cases hn : db + dd + c < 10
      · have hx : (da : Int) - db - c = dd := by omega
        have hcr : cry (dv b) D' (k + 1) = 0 := by rw [← r2]; omega
        have e2 : decide ((dd : Int) < 0) = false := decide_eq_false (by omega)
        simp only [ic138_4, wkA, Nat.reduceEqDiff, Nat.reduceAdd, Nat.reduceSub, Nat.reduceLeDiff, Nat.reduceLT, Nat.reduceBEq, Nat.reduceBNe, reduceCtorEq, e1]
        simp only [ic138_3, wkA, Nat.reduceEqDiff, Nat.reduceAdd, Nat.reduceSub, Nat.reduceLeDiff, Nat.reduceLT, Nat.reduceBEq, Nat.reduceBNe, reduceCtorEq]
        refine callF q1 rfl ?_
        simp only [wkA, Nat.reduceEqDiff, Nat.reduceAdd, Nat.reduceSub, Nat.reduceLeDiff, Nat.reduceLT, Nat.reduceBEq, Nat.reduceBNe, reduceCtorEq]
        refine callF q2 rfl ?_
        simp only [wkA, Nat.reduceEqDiff, Nat.reduceAdd, Nat.reduceSub, Nat.reduceLeDiff, Nat.reduceLT, Nat.reduceBEq, Nat.reduceBNe, reduceCtorEq, w1, hx, w8, e2]
        simp only [ic138_1, ic138_2, wkA, Nat.reduceEqDiff, Nat.reduceAdd, Nat.reduceSub, Nat.reduceLeDiff, Nat.reduceLT, Nat.reduceBEq, Nat.reduceBNe, reduceCtorEq, w4, w5, w7, hbl]
        refine ⟨⟨by omega, by omega⟩, _, a.length - (k + 1), Gh.refl _, by omega, k + 1, rfl, by omega, ?_⟩
        rw [hbs, hcr]
        rfl
      · have hx : (da : Int) - db - c + 10 = dd := by omega
        have hcr : cry (dv b) D' (k + 1) = 1 := by rw [← r2]; omega
        have e2 : decide ((da : Int) - db - c < 0) = true := decide_eq_true (by omega)
        simp only [ic138_4, wkA, Nat.reduceEqDiff, Nat.reduceAdd, Nat.reduceSub, Nat.reduceLeDiff, Nat.reduceLT, Nat.reduceBEq, Nat.reduceBNe, reduceCtorEq, e1]
        simp only [ic138_3, wkA, Nat.reduceEqDiff, Nat.reduceAdd, Nat.reduceSub, Nat.reduceLeDiff, Nat.reduceLT, Nat.reduceBEq, Nat.reduceBNe, reduceCtorEq]
        refine callF q1 rfl ?_
        simp only [wkA, Nat.reduceEqDiff, Nat.reduceAdd, Nat.reduceSub, Nat.reduceLeDiff, Nat.reduceLT, Nat.reduceBEq, Nat.reduceBNe, reduceCtorEq]
        refine callF q2 rfl ?_
        simp only [wkA, Nat.reduceEqDiff, Nat.reduceAdd, Nat.reduceSub, Nat.reduceLeDiff, Nat.reduceLT, Nat.reduceBEq, Nat.reduceBNe, reduceCtorEq, w1, w2, e2]
        simp only [wkA, Nat.reduceEqDiff, Nat.reduceAdd, Nat.reduceSub, Nat.reduceLeDiff, Nat.reduceLT, Nat.reduceBEq, Nat.reduceBNe, reduceCtorEq, hx, w8]
        simp only [ic138_1, ic138_2, wkA, Nat.reduceEqDiff, Nat.reduceAdd, Nat.reduceSub, Nat.reduceLeDiff, Nat.reduceLT, Nat.reduceBEq, Nat.reduceBNe, reduceCtorEq, w4, w5, w7, hbl]
        refine ⟨⟨by omega, by omega⟩, _, a.length - (k + 1), Gh.refl _, by omega, k + 1, rfl, by omega, ?_⟩
        rw [hbs, hcr]
        rfl
    · have e1 : decide ((k : Int) < (a.length : Int)) = false := decide_eq_false (by omega)
      have hka : k = a.length := by omega
      have hDlt : D' < 10 ^ k := by rw [hka]; omega
      have c140 := con140 (b := pdig D' k) (by rw [pdig_len]; omega)
      have c59 := con59 (pdig D' k).reverse (by rw [List.length_reverse, pdig_len]; omega)
      rw [pdig_strip hDlt] at c59
      simp only [ic138_4, wkA, Nat.reduceEqDiff, Nat.reduceAdd, Nat.reduceSub, Nat.reduceLeDiff, Nat.reduceLT, Nat.reduceBEq, Nat.reduceBNe, reduceCtorEq, e1]
      simp only [ic138_5, wkA, Nat.reduceEqDiff, Nat.reduceAdd, Nat.reduceSub, Nat.reduceLeDiff, Nat.reduceLT, Nat.reduceBEq, Nat.reduceBNe, reduceCtorEq]
      refine callF c140 rfl ?_
      simp only [wkA, Nat.reduceEqDiff, Nat.reduceAdd, Nat.reduceSub, Nat.reduceLeDiff, Nat.reduceLT, Nat.reduceBEq, Nat.reduceBNe, reduceCtorEq]
      refine callF c59 rfl ?_
      simp only [wkA, Nat.reduceEqDiff, Nat.reduceAdd, Nat.reduceSub, Nat.reduceLeDiff, Nat.reduceLT, Nat.reduceBEq, Nat.reduceBNe, reduceCtorEq]
theorem nd_len (n : Nat) : (digs n).length = nd n := rfl
def I107 (a : List UInt8) (B : Nat) (n : Nat) (st : St) : Prop := ∃ (i : Nat) (q : List UInt8), n = a.length - i ∧ i ≤ a.length ∧ q.length = i ∧ dgs q = true ∧ dv q = dv (a.take i) / B ∧
  st = ⟨[(0, .str a), (1, .str (digs B)), (6, .str q), (7, .str (digs (dv (a.take i) % B))), (8, i64 i)], []⟩
def J107 (a : List UInt8) (B X : Nat) (q : List UInt8) (i : Nat) (n : Nat) (st : St) : Prop := ∃ k, n = X - k * B ∧ k * B ≤ X ∧
  st = ⟨[(0, .str a), (1, .str (digs B)), (6, .str q), (7, .str (digs (X - k * B))), (8, i64 i), (9, i64 k)], []⟩
theorem con107 {a : List UInt8} {B : Nat} (ha : dgs a = true) (la : a.length < 900000) (hB : 0 < B) (lB : nd B < 800000) : Fn 107 [.str a, .str (digs B)] (.tup [.str (digs (dv a / B)), .str (digs (dv a % B))]) := by
  refine e107 (by simp) ?_
  simp only [ic107, wkA, Nat.reduceEqDiff, Nat.reduceAdd, Nat.reduceSub, Nat.reduceLeDiff, Nat.reduceLT, Nat.reduceBEq, Nat.reduceBNe, reduceCtorEq]
  refine ⟨I107 a B, a.length, _, Gh.refl _, ⟨0, [], by omega, by omega, rfl, rfl, by simp [dv], by simp [dv, digs_zero]⟩, ?_⟩
  rintro n st ⟨i, q, rfl, hi, hql, hqd, hqv, rfl⟩
  by_cases hlt : i < a.length
  · have e1 : decide ((i : Int) < (a.length : Int)) = true := decide_eq_true (by omega)
    have w1 : IntKind.i64.wrap ((i : Int) + 1) = ((i + 1 : Nat) : Int) := by rw [wrap64] <;> omega
    have hc := isDg_iff.1 (dgs_get ha hlt)
    have hT : dv (a.take (i + 1)) = dv (a.take i) * 10 + ((a.getD i 0).toNat - 48) := by rw [take_succ_get hlt, dv_snoc]
    have hs1 : (a.drop i).take (i + 1 - i) = [a.getD i 0] := by
      rw [show i + 1 - i = 1 by omega, List.drop_eq_getElem_cons hlt, List.getD_eq_getElem?_getD, List.getElem?_eq_getElem hlt]
      rfl
    generalize hTi : dv (a.take i) = T at *
    generalize hcc : a.getD i 0 = c at *
    have hR : T % B < B := Nat.mod_lt _ hB
    have hRl : nd (T % B) ≤ nd B := nd_mono (by omega)
    have hdg : dgs (digs (T % B) ++ [c]) = true := by
      rw [dgs_append]
      exact ⟨dgs_digs _, by simp [dgs, isDg_iff]; omega⟩
    have c59 := con59 (digs (T % B) ++ [c]) (by rw [List.length_append, List.length_singleton, nd_len]; omega)
    rw [← digs_dv hdg, dv_append, dv_digs, dv_one, List.length_singleton, Nat.pow_one] at c59
    obtain ⟨X, hX⟩ : ∃ X, T % B * 10 + (c.toNat - 48) = X := ⟨_, rfl⟩
    rw [hX] at c59
    have hXB : X < B * 10 := by omega
    simp only [ic107_6, wkA, Nat.reduceEqDiff, Nat.reduceAdd, Nat.reduceSub, Nat.reduceLeDiff, Nat.reduceLT, Nat.reduceBEq, Nat.reduceBNe, reduceCtorEq, e1]
    simp only [ic107_5, wkA, Nat.reduceEqDiff, Nat.reduceAdd, Nat.reduceSub, Nat.reduceLeDiff, Nat.reduceLT, Nat.reduceBEq, Nat.reduceBNe, reduceCtorEq, w1, Int.toNat_natCast, hs1]
    refine ⟨⟨by omega, by omega, by omega⟩, by rw [nd_len]; omega, callF c59 rfl ?_⟩
    simp only [wkA, Nat.reduceEqDiff, Nat.reduceAdd, Nat.reduceSub, Nat.reduceLeDiff, Nat.reduceLT, Nat.reduceBEq, Nat.reduceBNe, reduceCtorEq]
    refine ⟨J107 a B X q i, X, _, Gh.refl _, ⟨0, by omega, by omega, by simp⟩, ?_⟩
    rintro n st ⟨k, rfl, hk, rfl⟩
    have hXl : nd X ≤ nd B + 1 := by
      refine nd_le ?_
      rw [Nat.pow_succ]
      have := lt_nd B
      have h10 : B * 10 ≤ 10 ^ nd B * 10 := Nat.mul_le_mul_right _ (by omega)
      omega
    have hYl : nd (X - k * B) ≤ nd X := nd_mono (by omega)
    have c35 := con35 (X - k * B) B (by omega) (by omega)
    by_cases hlt2 : X - k * B < B
    · have e2 : decide (X - k * B < B) = true := decide_eq_true hlt2
      rw [e2] at c35
      have hkd : X / B = k := by
        rw [Nat.div_eq_iff (by omega)]
        constructor
        · omega
        · omega
      have hkm : X % B = X - k * B := by
        have := Nat.div_add_mod X B
        rw [hkd, Nat.mul_comm] at this
        omega
      have hk10 : k < 10 := by
        rw [← hkd]
        exact (Nat.div_lt_iff_lt_mul hB).2 (by omega)
      have w4 : IntKind.i64.wrap (48 + (k : Int)) = ((48 + k : Nat) : Int) := by rw [wrap64] <;> omega
      have w5 : IntKind.u8.wrap ((48 + k : Nat) : Int) = ((48 + k : Nat) : Int) := by
        simp only [IntKind.wrap, IntKind.signed, IntKind.bits, Bool.false_and, Bool.false_eq_true, if_false]
        omega
      have hb1 : [AV.int .u8 ((48 + k : Nat) : Int)] = bts [UInt8.ofNat (48 + k)] := by
        simp only [bts, List.map_cons, List.map_nil, byteAV]
        rw [ofNat_dg _ hk10]
      simp only [ic107_2, wkA, Nat.reduceEqDiff, Nat.reduceAdd, Nat.reduceSub, Nat.reduceLeDiff, Nat.reduceLT, Nat.reduceBEq, Nat.reduceBNe, reduceCtorEq]
      refine callF c35 rfl ?_
      simp only [wkA, Nat.reduceEqDiff, Nat.reduceAdd, Nat.reduceSub, Nat.reduceLeDiff, Nat.reduceLT, Nat.reduceBEq, Nat.reduceBNe, reduceCtorEq, Bool.not_true]
      have hby : byteOf (AV.int IntKind.u8 ((48 + k : Nat) : Int)) = UInt8.ofNat (48 + k) := rfl
      have hq2 : dv (q ++ [UInt8.ofNat (48 + k)]) = (T * 10 + (c.toNat - 48)) / B := by
        rw [dv_append, hqv, dv_one, ofNat_dg _ hk10, List.length_singleton, Nat.pow_one, Nat.add_sub_cancel_left, ← hkd, ← hX]
        have : T * 10 + (c.toNat - 48) = (T % B * 10 + (c.toNat - 48)) + B * (T / B * 10) := by
          have h1 := Nat.div_add_mod T B
          have h2 : B * (T / B * 10) = B * (T / B) * 10 := by rw [Nat.mul_assoc]
          rw [h2]
          omega
        rw [this, Nat.add_mul_div_left _ _ hB]
        omega
      have hr2 : (T * 10 + (c.toNat - 48)) % B = X - k * B := by
        rw [← hkm, ← hX]
        have : T * 10 + (c.toNat - 48) = (T % B * 10 + (c.toNat - 48)) + B * (T / B * 10) := by
          have h1 := Nat.div_add_mod T B
          have h2 : B * (T / B * 10) = B * (T / B) * 10 := by rw [Nat.mul_assoc]
          rw [h2]
          omega
        conv => lhs; rw [this]
        rw [Nat.add_mul_mod_self_left]
      simp only [ic107_3, wkA, Nat.reduceEqDiff, Nat.reduceAdd, Nat.reduceSub, Nat.reduceLeDiff, Nat.reduceLT, Nat.reduceBEq, Nat.reduceBNe, reduceCtorEq, w4, w5, hby]
      refine ⟨fun x hx => ?_, by omega, ?_⟩
      · rw [List.mem_singleton] at hx
        subst hx
        exact ⟨by omega, by omega⟩
      · simp only [ic107_4, wkA, Nat.reduceEqDiff, Nat.reduceAdd, Nat.reduceSub, Nat.reduceLeDiff, Nat.reduceLT, Nat.reduceBEq, Nat.reduceBNe, reduceCtorEq, w1]
        refine ⟨_, a.length - (i + 1), Gh.refl _, by omega, i + 1, q ++ [UInt8.ofNat (48 + k)], rfl, by omega, by rw [List.length_append, hql]; rfl, ?_, by rw [hT, hq2], ?_⟩
        · rw [dgs_append]
          exact ⟨hqd, by simp only [dgs, List.all_cons, List.all_nil, Bool.and_true]; rw [isDg_iff, ofNat_dg _ hk10]; omega⟩
        · rw [hT, hr2]
    · have e2 : decide (X - k * B < B) = false := decide_eq_false hlt2
      rw [e2] at c35
      have c138 := con138 (a := digs (X - k * B)) (b := digs B) (dgs_digs _) (dgs_digs _) (by rw [nd_len]; omega) (by rw [nd_len]; omega) (by rw [dv_digs, dv_digs]; omega)
      rw [dv_digs, dv_digs] at c138
      have hk1 : (k + 1) * B = k * B + B := by rw [Nat.add_mul]; omega
      have hsub : X - k * B - B = X - (k + 1) * B := by omega
      rw [hsub] at c138
      have hkl : k < 10 := by
        refine Classical.byContradiction fun hn => ?_
        have : 10 * B ≤ k * B := Nat.mul_le_mul_right _ (by omega)
        omega
      have w6 : IntKind.i64.wrap ((k : Int) + 1) = ((k + 1 : Nat) : Int) := by rw [wrap64] <;> omega
      simp only [ic107_2, wkA, Nat.reduceEqDiff, Nat.reduceAdd, Nat.reduceSub, Nat.reduceLeDiff, Nat.reduceLT, Nat.reduceBEq, Nat.reduceBNe, reduceCtorEq]
      refine callF c35 rfl ?_
      simp only [wkA, Nat.reduceEqDiff, Nat.reduceAdd, Nat.reduceSub, Nat.reduceLeDiff, Nat.reduceLT, Nat.reduceBEq, Nat.reduceBNe, reduceCtorEq, Bool.not_false]
      simp only [ic107_1, wkA, Nat.reduceEqDiff, Nat.reduceAdd, Nat.reduceSub, Nat.reduceLeDiff, Nat.reduceLT, Nat.reduceBEq, Nat.reduceBNe, reduceCtorEq]
      refine callF c138 rfl ?_
      simp only [wkA, Nat.reduceEqDiff, Nat.reduceAdd, Nat.reduceSub, Nat.reduceLeDiff, Nat.reduceLT, Nat.reduceBEq, Nat.reduceBNe, reduceCtorEq, w6]
      exact ⟨_, X - (k + 1) * B, Gh.refl _, by omega, k + 1, rfl, by omega, rfl⟩
  · have e1 : decide ((i : Int) < (a.length : Int)) = false := decide_eq_false (by omega)
    have hia : a.take i = a := List.take_of_length_le (by omega)
    have c59 := con59 q (by omega)
    rw [hia] at hqv
    rw [← digs_dv hqd, hqv] at c59
    rw [hia]
    simp only [ic107_6, wkA, Nat.reduceEqDiff, Nat.reduceAdd, Nat.reduceSub, Nat.reduceLeDiff, Nat.reduceLT, Nat.reduceBEq, Nat.reduceBNe, reduceCtorEq, e1]
    simp only [ic107_7, wkA, Nat.reduceEqDiff, Nat.reduceAdd, Nat.reduceSub, Nat.reduceLeDiff, Nat.reduceLT, Nat.reduceBEq, Nat.reduceBNe, reduceCtorEq]
    refine callF c59 rfl ?_
    simp only [wkA, Nat.reduceEqDiff, Nat.reduceAdd, Nat.reduceSub, Nat.reduceLeDiff, Nat.reduceLT, Nat.reduceBEq, Nat.reduceBNe, reduceCtorEq]
def pv : List Nat → Nat
  | [] => 0
  | x :: l => x + 10 * pv l
theorem pv_append (a b : List Nat) : pv (a ++ b) = pv a + 10 ^ a.length * pv b := by
  induction a with
  | nil => simp [pv]
  | cons x a ih =>
    simp only [List.cons_append, pv, ih, List.length_cons, Nat.pow_succ, Nat.mul_add]
    rw [show 10 * (10 ^ a.length * pv b) = 10 ^ a.length * 10 * pv b by rw [← Nat.mul_assoc, Nat.mul_comm 10]]
    omega
theorem pv_rep (n : Nat) : pv (List.replicate n 0) = 0 := by
  induction n with
  | zero => rfl
  | succ n ih => simp [List.replicate_succ, pv, ih]
theorem pv_set (l : List Nat) (i v : Nat) (hi : i < l.length) : pv (l.set i (l.getD i 0 + v)) = pv l + v * 10 ^ i := by
  induction l generalizing i with
  | nil => simp at hi
  | cons x l ih =>
    cases i with
    | zero => simp [pv]; omega
    | succ i =>
      have := ih i (by simpa using hi)
      simp only [List.set_cons_succ, pv, List.getD_cons_succ, this, Nat.pow_succ]
      rw [Nat.mul_add, ← Nat.mul_assoc 10, Nat.mul_comm 10 v, Nat.mul_assoc v 10, Nat.mul_comm 10 (10 ^ i), ← Nat.mul_assoc]
      rw [Nat.mul_assoc v]
      omega
def ints (l : List Nat) : List AV := l.map fun n : Nat => i64 (n : Int)
def Ia110 (a b : List UInt8) (n : Nat) (st : St) : Prop := ∃ (i : Nat) (l : List Nat), n = a.length - i ∧ i ≤ a.length ∧ l.length = a.length + b.length + 1 ∧ (∀ x ∈ l, x ≤ 81 * i) ∧ pv l = dv a % 10 ^ i * dv b ∧
  st = ⟨[(0, .str a), (1, .str b), (5, .own 18), (6, i64 i)], [(18, .row 3 1 (ints l))]⟩
def Ib110 (a b : List UInt8) (i n : Nat) (st : St) : Prop := ∃ (j : Nat) (l : List Nat), n = b.length - j ∧ j ≤ b.length ∧ l.length = a.length + b.length + 1 ∧ (∀ x ∈ l, x ≤ 81 * (i + 1)) ∧ (∀ k, i + j ≤ k → l.getD k 0 ≤ 81 * i) ∧ pv l = dv a % 10 ^ i * dv b + dgt (dv a) i * 10 ^ i * (dv b % 10 ^ j) ∧
  st = ⟨[(0, .str a), (1, .str b), (5, .own 18), (6, i64 i), (7, i64 j)], [(18, .row 3 1 (ints l))]⟩
theorem take_succ_get' {l : List Nat} {k : Nat} (hk : k < l.length) : l.take (k + 1) = l.take k ++ [l.getD k 0] := by
  rw [List.take_add_one, List.getD_eq_getElem?_getD, List.getElem?_eq_getElem hk]
  rfl
theorem pv_split (l : List Nat) (k : Nat) (hk : k ≤ l.length) : pv l = pv (l.take k) + 10 ^ k * pv (l.drop k) := by
  conv => lhs; rw [← List.take_append_drop k l]
  rw [pv_append, List.length_take, Nat.min_eq_left hk]
theorem pv_take (l : List Nat) (k : Nat) (hk : k < l.length) : pv (l.take (k + 1)) = pv (l.take k) + 10 ^ k * l.getD k 0 := by
  rw [take_succ_get' hk, pv_append, List.length_take, Nat.min_eq_left (by omega)]
  simp [pv]
theorem pv_dgt {l : List Nat} {k : Nat} (hk : k < l.length) : (l.getD k 0 + pv (l.take k) / 10 ^ k) % 10 = dgt (pv l) k := by
  have hp : 0 < 10 ^ k := Nat.pow_pos (by decide)
  unfold dgt
  rw [pv_split l k (by omega), Nat.add_mul_div_left _ _ hp, List.drop_eq_getElem_cons hk, List.getD_eq_getElem?_getD, List.getElem?_eq_getElem hk]
  simp only [pv, Option.getD_some]
  omega
theorem pv_cry {l : List Nat} {k : Nat} (hk : k < l.length) : (l.getD k 0 + pv (l.take k) / 10 ^ k) / 10 = pv (l.take (k + 1)) / 10 ^ (k + 1) := by
  have hp : 0 < 10 ^ k := Nat.pow_pos (by decide)
  rw [pv_take l k hk, Nat.pow_succ, ← Nat.div_div_eq_div_mul, Nat.add_mul_div_left _ _ hp, Nat.add_comm]
def Ic110 (a : List UInt8) (l : List Nat) (n : Nat) (st : St) : Prop := ∃ k, n = l.length - k ∧ k ≤ l.length ∧ pv (l.take k) / 10 ^ k ≤ 81 * a.length ∧
  st = ⟨[(5, .own 18), (8, .own 68), (9, i64 (pv (l.take k) / 10 ^ k : Nat)), (10, i64 k)], [(18, .row 3 1 (ints l)), (68, .row 5 1 (bts (pdig (pv l) k)))]⟩
theorem con110 {a b : List UInt8} (ha : dgs a = true) (hb : dgs b = true) (la : a.length < 400000) (lb : b.length < 400000) : Fn 110 [.str a, .str b] (.str (digs (dv a * dv b))) := by
  have w1 : IntKind.i64.wrap ((a.length : Int) + b.length) = ((a.length + b.length : Nat) : Int) := by rw [wrap64] <;> omega
  have w2 : IntKind.i64.wrap (((a.length + b.length : Nat) : Int) + 1) = ((a.length + b.length + 1 : Nat) : Int) := by rw [wrap64] <;> omega
  refine e110 (by simp) ?_
  simp only [ic110, wkA, Nat.reduceEqDiff, Nat.reduceAdd, Nat.reduceSub, Nat.reduceLeDiff, Nat.reduceLT, Nat.reduceBEq, Nat.reduceBNe, reduceCtorEq, w1, w2, Int.toNat_natCast]
  have hz : ints (List.replicate (a.length + b.length + 1) 0) = List.replicate (a.length + b.length + 1) (AV.int IntKind.i64 0) := by simp [ints]
  refine ⟨⟨by omega, by omega, by omega, by omega⟩, Ia110 a b, a.length, _, Gh.refl _, ⟨0, List.replicate (a.length + b.length + 1) 0, by omega, by omega, by simp, by simp, by simp [pv_rep, Nat.mod_one], by rw [hz]; rfl⟩, ?_⟩
  rintro n st ⟨i, l, rfl, hi, hl, hb1, hv, rfl⟩
  by_cases hlt : i < a.length
  · have e1 : decide ((i : Int) < (a.length : Int)) = true := decide_eq_true (by omega)
    have w3 : IntKind.i64.wrap ((i : Int) + 1) = ((i + 1 : Nat) : Int) := by rw [wrap64] <;> omega
    simp only [ic110_5, wkA, Nat.reduceEqDiff, Nat.reduceAdd, Nat.reduceSub, Nat.reduceLeDiff, Nat.reduceLT, Nat.reduceBEq, Nat.reduceBNe, reduceCtorEq, e1]
    simp only [ic110_4, wkA, Nat.reduceEqDiff, Nat.reduceAdd, Nat.reduceSub, Nat.reduceLeDiff, Nat.reduceLT, Nat.reduceBEq, Nat.reduceBNe, reduceCtorEq]
    refine ⟨Ib110 a b i, b.length, _, Gh.refl _, ⟨0, l, by omega, by omega, hl, fun x hx => by have := hb1 x hx; omega, fun k hk => ?_, by rw [hv]; simp [Nat.mod_one], rfl⟩, ?_⟩
    · rw [List.getD_eq_getElem?_getD]
      cases hx : l[k]? with
      | none => simp
      | some x => exact hb1 x (List.mem_of_getElem? hx)
    rintro n st ⟨j, l, rfl, hj, hl, hb1, hb2, hv, rfl⟩
    by_cases hlt2 : j < b.length
    · have e2 : decide ((j : Int) < (b.length : Int)) = true := decide_eq_true (by omega)
      have w4 : IntKind.i64.wrap ((i : Int) + j) = ((i + j : Nat) : Int) := by rw [wrap64] <;> omega
      have w5 : IntKind.i64.wrap ((j : Int) + 1) = ((j + 1 : Nat) : Int) := by rw [wrap64] <;> omega
      have hil : (ints l).length = a.length + b.length + 1 := by simp [ints, hl]
      have hg : (ints l).getD (i + j) .top = i64 (l.getD (i + j) 0 : Nat) := by
        have : i + j < l.length := by omega
        simp [ints, List.getD_eq_getElem?_getD, this]
      have q1 := con139 ha (by omega) (k := i) (by omega)
      have q2 := con139 hb (by omega) (k := j) (by omega)
      have d1 := dgt_lt (dv a) i
      have d2 := dgt_lt (dv b) j
      have hold := hb2 (i + j) (by omega)
      simp only [ic110_2, wkA, Nat.reduceEqDiff, Nat.reduceAdd, Nat.reduceSub, Nat.reduceLeDiff, Nat.reduceLT, Nat.reduceBEq, Nat.reduceBNe, reduceCtorEq, e2]
      simp only [ic110_1, wkA, Nat.reduceEqDiff, Nat.reduceAdd, Nat.reduceSub, Nat.reduceLeDiff, Nat.reduceLT, Nat.reduceBEq, Nat.reduceBNe, reduceCtorEq, w4, Int.toNat_natCast, hg, hil]
      refine ⟨⟨by omega, by omega⟩, by omega, callFD q1 rfl ?_⟩
      simp only [wkA, Nat.reduceEqDiff, Nat.reduceAdd, Nat.reduceSub, Nat.reduceLeDiff, Nat.reduceLT, Nat.reduceBEq, Nat.reduceBNe, reduceCtorEq]
      refine callFD q2 rfl ?_
      generalize hda : dgt (dv a) i = da at *
      generalize hdb : dgt (dv b) j = db at *
      have hpr : da * db ≤ 81 := Nat.le_trans (Nat.mul_le_mul (Nat.le_of_lt_succ d1) (Nat.le_of_lt_succ d2)) (by decide)
      have w6 : IntKind.i64.wrap ((da : Int) * db) = ((da * db : Nat) : Int) := by rw [← Int.natCast_mul, wrap64] <;> omega
      have w7 : IntKind.i64.wrap (((l.getD (i + j) 0 : Nat) : Int) + ((da * db : Nat) : Int)) = ((l.getD (i + j) 0 + da * db : Nat) : Int) := by rw [wrap64] <;> omega
      simp only [wkA, Nat.reduceEqDiff, Nat.reduceAdd, Nat.reduceSub, Nat.reduceLeDiff, Nat.reduceLT, Nat.reduceBEq, Nat.reduceBNe, reduceCtorEq, w4, w5, w6, w7, Int.toNat_natCast, hil]
      refine ⟨⟨by omega, by omega⟩, ?_⟩
      refine ⟨by omega, _, b.length - (j + 1), Gh.refl _, by omega, j + 1, l.set (i + j) (l.getD (i + j) 0 + da * db), rfl, by omega, by rw [List.length_set, hl], ?_, ?_, ?_, ?_⟩
      · intro x hx
        rcases List.mem_or_eq_of_mem_set hx with hx | hx
        · exact hb1 x hx
        · subst hx; omega
      · intro k hk
        rw [List.getD_eq_getElem?_getD, List.getElem?_set, if_neg (by omega), ← List.getD_eq_getElem?_getD]
        exact hb2 k (by omega)
      · rw [pv_set l (i + j) (da * db) (by omega), hv, Nat.mod_pow_succ, Nat.mul_add]
        have hdb' : dv b / 10 ^ j % 10 = db := hdb
        rw [hdb', Nat.pow_add, hda]
        have : da * db * (10 ^ i * 10 ^ j) = da * 10 ^ i * (10 ^ j * db) := by
          rw [Nat.mul_assoc, Nat.mul_assoc]; congr 1
          rw [Nat.mul_left_comm, Nat.mul_comm db]
        omega
      · rw [show ints (l.set (i + j) (l.getD (i + j) 0 + da * db)) = (ints l).set (i + j) (i64 ((l.getD (i + j) 0 + da * db : Nat) : Int)) by simp [ints, List.map_set]]
    · have e2 : decide ((j : Int) < (b.length : Int)) = false := decide_eq_false (by omega)
      have hjb : j = b.length := by omega
      subst hjb
      simp only [ic110_2, wkA, Nat.reduceEqDiff, Nat.reduceAdd, Nat.reduceSub, Nat.reduceLeDiff, Nat.reduceLT, Nat.reduceBEq, Nat.reduceBNe, reduceCtorEq, e2]
      simp only [ic110_3, wkA, Nat.reduceEqDiff, Nat.reduceAdd, Nat.reduceSub, Nat.reduceLeDiff, Nat.reduceLT, Nat.reduceBEq, Nat.reduceBNe, reduceCtorEq, w3]
      refine ⟨_, a.length - (i + 1), Gh.refl _, by omega, i + 1, l, rfl, by omega, hl, hb1, ?_, rfl⟩
      rw [hv, Nat.mod_eq_of_lt (dv_lt hb), Nat.mod_pow_succ]
      unfold dgt
      rw [Nat.add_mul, Nat.mul_comm (10 ^ i)]
  · have e1 : decide ((i : Int) < (a.length : Int)) = false := decide_eq_false (by omega)
    have hia : i = a.length := by omega
    subst hia
    rw [Nat.mod_eq_of_lt (dv_lt ha)] at hv
    have hS : dv a * dv b < 10 ^ l.length := by
      have h1 := dv_lt ha
      have h2 := dv_lt hb
      have h3 : dv a * dv b < 10 ^ a.length * 10 ^ b.length := Nat.lt_of_le_of_lt (Nat.mul_le_mul_left _ (Nat.le_of_lt h2)) (Nat.mul_lt_mul_of_pos_right h1 (Nat.pow_pos (by decide)))
      rw [← Nat.pow_add] at h3
      exact Nat.lt_of_lt_of_le h3 (Nat.pow_le_pow_right (by decide) (by omega))
    rw [← hv]
    rw [← hv] at hS
    simp only [ic110_5, wkA, Nat.reduceEqDiff, Nat.reduceAdd, Nat.reduceSub, Nat.reduceLeDiff, Nat.reduceLT, Nat.reduceBEq, Nat.reduceBNe, reduceCtorEq, e1]
    simp only [ic110_9, wkA, Nat.reduceEqDiff, Nat.reduceAdd, Nat.reduceSub, Nat.reduceLeDiff, Nat.reduceLT, Nat.reduceBEq, Nat.reduceBNe, reduceCtorEq]
    refine ⟨Ic110 a l, l.length, ⟨[(5, .own 18), (8, .own 68), (9, i64 0), (10, i64 0)], [(18, .row 3 1 (ints l)), (68, .row 5 1 [])]⟩, ?_, ⟨0, by omega, by omega, by simp [pv], by simp [bts, pdig, pv]⟩, ?_⟩
    · have := Gh.own (s := ⟨[(5, .own 18), (8, .nil), (9, i64 0), (10, i64 0)], [(18, .row 3 1 (ints l))]⟩) (t := 8) 5 1 68 rfl (by decide)
      refine this.trans ?_
      refine (Gh.keep _ [5, 8, 9, 10] [18, 68]).trans ?_
      simp only [wkA, Nat.reduceEqDiff, Nat.reduceAdd, Nat.reduceSub, Nat.reduceLeDiff, Nat.reduceLT, Nat.reduceBEq, Nat.reduceBNe, reduceCtorEq]
      exact Gh.refl _
    · rintro n st ⟨k, rfl, hk, hcl, rfl⟩
      have hil : (ints l).length = l.length := by simp [ints]
      have hbl : (bts (pdig (pv l) k)).length = k := by simp [bts, pdig_len]
      by_cases hlt3 : k < l.length
      · have e3 : decide ((k : Int) < (l.length : Int)) = true := decide_eq_true (by omega)
        have hg : (ints l).getD k .top = i64 (l.getD k 0 : Nat) := by simp [ints, List.getD_eq_getElem?_getD, hlt3]
        have hx : l.getD k 0 ≤ 81 * a.length := by
          rw [List.getD_eq_getElem?_getD, List.getElem?_eq_getElem hlt3]
          exact hb1 _ (List.getElem_mem hlt3)
        have r1 := pv_dgt hlt3
        have r2 := pv_cry hlt3
        have d3 := dgt_lt (pv l) k
        have hbs : bts (pdig (pv l) (k + 1)) = bts (pdig (pv l) k) ++ [.int .u8 ((48 + dgt (pv l) k : Nat) : Int)] := by
          rw [pdig_succ]
          simp only [bts, List.map_append, List.map_cons, List.map_nil, byteAV]
          rw [ofNat_dg _ (dgt_lt _ _)]
        generalize hc : pv (l.take k) / 10 ^ k = c at *
        generalize hxx : l.getD k 0 = x at *
        generalize hds : dgt (pv l) k = ds at *
        have w1 : IntKind.i64.wrap ((x : Int) + c) = ((x + c : Nat) : Int) := by rw [wrap64] <;> omega
        have w3 : ((x + c : Nat) : Int).tmod 10 = (ds : Int) := by rw [← r1]; exact Int.ofNat_tmod _ _
        have w4 : IntKind.i64.wrap (48 + (ds : Int)) = ((48 + ds : Nat) : Int) := by rw [wrap64] <;> omega
        have w5 : IntKind.u8.wrap ((48 + ds : Nat) : Int) = ((48 + ds : Nat) : Int) := by
          simp only [IntKind.wrap, IntKind.signed, IntKind.bits, Bool.false_and, Bool.false_eq_true, if_false]
          omega
        have w6 : IntKind.i64.wrap (((x + c : Nat) : Int).tdiv 10) = ((pv (l.take (k + 1)) / 10 ^ (k + 1) : Nat) : Int) := by
          rw [← r2, show ((x + c : Nat) : Int).tdiv 10 = (((x + c) / 10 : Nat) : Int) from Int.ofNat_tdiv _ _, wrap64] <;> omega
        have w7 : IntKind.i64.wrap ((k : Int) + 1) = ((k + 1 : Nat) : Int) := by rw [wrap64] <;> omega
        have ten : ¬ (10 : Int) = 0 := by decide
        simp only [ic110_7, wkA, Nat.reduceEqDiff, Nat.reduceAdd, Nat.reduceSub, Nat.reduceLeDiff, Nat.reduceLT, Nat.reduceBEq, Nat.reduceBNe, reduceCtorEq, hil, e3]
        simp only [ic110_6, wkA, Nat.reduceEqDiff, Nat.reduceAdd, Nat.reduceSub, Nat.reduceLeDiff, Nat.reduceLT, Nat.reduceBEq, Nat.reduceBNe, reduceCtorEq, hil, hg, Int.toNat_natCast, w1, w3, w4, w5, w6, w7, hbl]
        refine ⟨⟨by omega, by omega⟩, by omega, ten, ⟨by omega, by omega⟩, ten, _, l.length - (k + 1), Gh.refl _, by omega, k + 1, rfl, by omega, by omega, ?_⟩
        rw [hbs]
      · have e3 : decide ((k : Int) < (l.length : Int)) = false := decide_eq_false (by omega)
        have hkl : k = l.length := by omega
        have c140 := con140 (b := pdig (pv l) k) (by rw [pdig_len]; omega)
        have c59 := con59 (pdig (pv l) k).reverse (by rw [List.length_reverse, pdig_len]; omega)
        rw [pdig_strip (by rw [hkl]; exact hS)] at c59
        simp only [ic110_7, wkA, Nat.reduceEqDiff, Nat.reduceAdd, Nat.reduceSub, Nat.reduceLeDiff, Nat.reduceLT, Nat.reduceBEq, Nat.reduceBNe, reduceCtorEq, hil, e3]
        simp only [ic110_8, wkA, Nat.reduceEqDiff, Nat.reduceAdd, Nat.reduceSub, Nat.reduceLeDiff, Nat.reduceLT, Nat.reduceBEq, Nat.reduceBNe, reduceCtorEq]
        refine callF c140 rfl ?_
        simp only [wkA, Nat.reduceEqDiff, Nat.reduceAdd, Nat.reduceSub, Nat.reduceLeDiff, Nat.reduceLT, Nat.reduceBEq, Nat.reduceBNe, reduceCtorEq]
        refine callF c59 rfl ?_
        simp only [wkA, Nat.reduceEqDiff, Nat.reduceAdd, Nat.reduceSub, Nat.reduceLeDiff, Nat.reduceLT, Nat.reduceBEq, Nat.reduceBNe, reduceCtorEq]
theorem con22 {neg : Bool} {s : List UInt8} {e n : Int} (h : okD s e) (h2 : okD s (e + n)) (hn : -1000000 < n ∧ n < 1000000) : Fn 22 [D neg s e, i64 n] (N neg (dv s) (e + n)) := by
  have c50 := con50 (neg := neg) h2
  obtain ⟨_, _, _, he1, he2⟩ := h
  have w1 : IntKind.i64.wrap (e + n) = e + n := by rw [wrap64] <;> omega
  refine e22 (by simp) ?_
  simp only [N, D] at c50 ⊢
  simp only [ic22, wkA, Nat.reduceEqDiff, Nat.reduceAdd, Nat.reduceSub, Nat.reduceLeDiff, Nat.reduceLT, Nat.reduceBEq, Nat.reduceBNe, reduceCtorEq, w1]
  refine callF c50 rfl ?_
  simp only [wkA, Nat.reduceEqDiff, Nat.reduceAdd, Nat.reduceSub, Nat.reduceLeDiff, Nat.reduceLT, Nat.reduceBEq, Nat.reduceBNe, reduceCtorEq]
theorem con28 {neg : Bool} {s : List UInt8} {e : Int} (h : okD (48 :: s) e) : Fn 28 [.bool neg, .str s, i64 e] (N neg (dv s) e) := by
  have c50 := con50 (neg := neg) h
  have hd : dv (48 :: s) = dv s := by
    have := dv_append [48] s
    rw [show [48] ++ s = 48 :: s from rfl, dv_one] at this
    rw [this]; simp
  rw [hd] at c50
  have hl := h.2.2.1
  simp only [List.length_cons] at hl
  refine e28 (by simp) ?_
  simp only [N, D] at c50 ⊢
  simp only [ic28, wkA, Nat.reduceEqDiff, Nat.reduceAdd, Nat.reduceSub, Nat.reduceLeDiff, Nat.reduceLT, Nat.reduceBEq, Nat.reduceBNe, reduceCtorEq]
  refine ⟨by omega, callF c50 rfl ?_⟩
  simp only [wkA, Nat.reduceEqDiff, Nat.reduceAdd, Nat.reduceSub, Nat.reduceLeDiff, Nat.reduceLT, Nat.reduceBEq, Nat.reduceBNe, reduceCtorEq]
  rfl
theorem con51 {neg : Bool} {s : List UInt8} {e : Int} (h : okD s e) : Fn 51 [D neg s e] (i64 (top (dv s) e)) := by
  obtain ⟨h1, _, h3, he1, he2⟩ := h
  have c59 := con59 s (by omega)
  rw [← digs_dv h1] at c59
  have hn := nd_dv h1
  have w1 : IntKind.i64.wrap (e + (digs (dv s)).length) = e + (nd (dv s) : Int) := by
    show IntKind.i64.wrap (e + (nd (dv s) : Int)) = _
    rw [wrap64] <;> omega
  have w2 : IntKind.i64.wrap (e + (nd (dv s) : Int) - 1) = e + nd (dv s) - 1 := by rw [wrap64] <;> omega
  refine e51 (by simp) ?_
  simp only [D, ic51, wkA, Nat.reduceEqDiff, Nat.reduceAdd, Nat.reduceSub, Nat.reduceLeDiff, Nat.reduceLT, Nat.reduceBEq, Nat.reduceBNe, reduceCtorEq]
  refine callF c59 rfl ?_
  unfold top
  by_cases h0 : dv s = 0
  · rw [if_pos h0]
    have e1 : (digs (dv s) == []) = true := by rw [h0, digs_zero]; rfl
    simp only [wkA, Nat.reduceEqDiff, Nat.reduceAdd, Nat.reduceSub, Nat.reduceLeDiff, Nat.reduceLT, Nat.reduceBEq, Nat.reduceBNe, reduceCtorEq, e1]
  · rw [if_neg h0]
    have e1 : (digs (dv s) == []) = false := by rw [strBeq, decide_eq_false_iff_not, digs_nil]; exact h0
    simp only [wkA, Nat.reduceEqDiff, Nat.reduceAdd, Nat.reduceSub, Nat.reduceLeDiff, Nat.reduceLT, Nat.reduceBEq, Nat.reduceBNe, reduceCtorEq, e1]
    simp only [ic51_1, wkA, Nat.reduceEqDiff, Nat.reduceAdd, Nat.reduceSub, Nat.reduceLeDiff, Nat.reduceLT, Nat.reduceBEq, Nat.reduceBNe, reduceCtorEq, w1, w2]
theorem con109 (m : Int) (neg odd : Bool) (half : Int) : Fn 109 [i64 m, .bool neg, .bool odd, i64 half] (.bool (awayB m neg odd half)) := by
  refine e109 (by simp) ?_
  unfold awayB
  by_cases h0 : m = 0
  · subst h0
    have z0 : ((0 : Int) == 0) = true := rfl
    simp only [ic109, wkA, Nat.reduceEqDiff, Nat.reduceAdd, Nat.reduceSub, Nat.reduceLeDiff, Nat.reduceLT, Nat.reduceBEq, Nat.reduceBNe, reduceCtorEq, z0]
  · have z0 : (m == 0) = false := by simp [h0]
    rw [if_neg h0]
    by_cases h1 : m = 1
    · subst h1
      have z1 : ((1 : Int) == 1) = true := rfl
      simp only [ic109, wkA, Nat.reduceEqDiff, Nat.reduceAdd, Nat.reduceSub, Nat.reduceLeDiff, Nat.reduceLT, Nat.reduceBEq, Nat.reduceBNe, reduceCtorEq, z0, z1]
    · have z1 : (m == 1) = false := by simp [h1]
      rw [if_neg h1]
      by_cases h2 : m = 2
      · subst h2
        have z2 : ((2 : Int) == 2) = true := rfl
        simp only [ic109, wkA, Nat.reduceEqDiff, Nat.reduceAdd, Nat.reduceSub, Nat.reduceLeDiff, Nat.reduceLT, Nat.reduceBEq, Nat.reduceBNe, reduceCtorEq, z0, z1, z2]
      · have z2 : (m == 2) = false := by simp [h2]
        rw [if_neg h2]
        by_cases h4 : m = 4
        · subst h4
          have z4 : ((4 : Int) == 4) = true := rfl
          rw [if_pos rfl]
          cases hh : decide (half > 0) with
          | true =>
            simp only [ic109, wkA, Nat.reduceEqDiff, Nat.reduceAdd, Nat.reduceSub, Nat.reduceLeDiff, Nat.reduceLT, Nat.reduceBEq, Nat.reduceBNe, reduceCtorEq, z0, z1, z2, z4, hh, Bool.true_or]
          | false =>
            have hz : decide (half = 0) = (half == 0) := by rw [Bool.eq_iff_iff, decide_eq_true_eq, beq_iff_eq]
            rw [hz]
            cases hh2 : (half == 0) with
            | true => simp only [ic109, wkA, Nat.reduceEqDiff, Nat.reduceAdd, Nat.reduceSub, Nat.reduceLeDiff, Nat.reduceLT, Nat.reduceBEq, Nat.reduceBNe, reduceCtorEq, z0, z1, z2, z4, hh, hh2, Bool.false_or, Bool.true_and]
            | false => simp only [ic109, wkA, Nat.reduceEqDiff, Nat.reduceAdd, Nat.reduceSub, Nat.reduceLeDiff, Nat.reduceLT, Nat.reduceBEq, Nat.reduceBNe, reduceCtorEq, z0, z1, z2, z4, hh, hh2, Bool.false_or, Bool.false_and]
        · have z4 : (m == 4) = false := by simp [h4]
          rw [if_neg h4]
          by_cases h5 : m = 5
          · subst h5
            have z5 : ((5 : Int) == 5) = true := rfl
            simp only [ic109, wkA, Nat.reduceEqDiff, Nat.reduceAdd, Nat.reduceSub, Nat.reduceLeDiff, Nat.reduceLT, Nat.reduceBEq, Nat.reduceBNe, reduceCtorEq, z0, z1, z2, z4, z5]
          · have z5 : (m == 5) = false := by simp [h5]
            rw [if_neg h5]
            by_cases h6 : m = 6
            · subst h6
              have z6 : ((6 : Int) == 6) = true := rfl
              simp only [ic109, wkA, Nat.reduceEqDiff, Nat.reduceAdd, Nat.reduceSub, Nat.reduceLeDiff, Nat.reduceLT, Nat.reduceBEq, Nat.reduceBNe, reduceCtorEq, z0, z1, z2, z4, z5, z6]
            · have z6 : (m == 6) = false := by simp [h6]
              rw [if_neg h6]
              simp only [ic109, wkA, Nat.reduceEqDiff, Nat.reduceAdd, Nat.reduceSub, Nat.reduceLeDiff, Nat.reduceLT, Nat.reduceBEq, Nat.reduceBNe, reduceCtorEq, z0, z1, z2, z4, z5, z6]
              simp only [ic109_1, wkA, Nat.reduceEqDiff, Nat.reduceAdd, Nat.reduceSub, Nat.reduceLeDiff, Nat.reduceLT, Nat.reduceBEq, Nat.reduceBNe, reduceCtorEq]
theorem end79 {E e : Int} {neg : Bool} {s : List UInt8} {W Q : Nat} {ex : List (Nat × AV)} (hQ : nd Q < 30000) (hW : nd W < 30000) (hE : -1000000 < E ∧ E < 1000000) :
    VC e0 ic79_1 (retQ [(8, (some (some 3))), (9, none)] (.tup [N neg (Q * W) E, i64 0])) ⟨(5, .box 5 0) :: (8, .box 8 0) :: (10, i64 E) :: (11, .str (digs W)) :: (12, .str (digs Q)) :: ex, [(5, .box 23 [.bool neg, .str s, i64 e]), (8, .box 23 [.bool false, .str [], i64 0])]⟩ := by
  have c110 := con110 (a := digs Q) (b := digs W) (dgs_digs _) (dgs_digs _) (by rw [nd_len]; omega) (by rw [nd_len]; omega)
  rw [dv_digs, dv_digs] at c110
  have hl := nd_mulLe Q W
  have c28 := con28 (neg := neg) (s := digs (Q * W)) (e := E) ⟨by simp only [dgs, List.all_cons]; exact dgs_digs _, by simp, by rw [List.length_cons, nd_len]; omega, by omega, by omega⟩
  rw [dv_digs] at c28
  simp only [N, D] at c28
  change VC e0 ic79_1 (retQ _ (.tup [.agg [.bool neg, .str (text (core (Q * W))), i64 (ne (Q * W) E)], i64 0])) _
  generalize text (core (Q * W)) = tx at *
  generalize ne (Q * W) E = xx at *
  simp only [ic79_1, wkA, Nat.reduceEqDiff, Nat.reduceAdd, Nat.reduceSub, Nat.reduceLeDiff, Nat.reduceLT, Nat.reduceBEq, Nat.reduceBNe, reduceCtorEq]
  refine callFD c110 rfl ?_
  simp only [wkA, Nat.reduceEqDiff, Nat.reduceAdd, Nat.reduceSub, Nat.reduceLeDiff, Nat.reduceLT, Nat.reduceBEq, Nat.reduceBNe, reduceCtorEq]
  refine callFD c28 rfl ?_
  simp only [wkA, Nat.reduceEqDiff, Nat.reduceAdd, Nat.reduceSub, Nat.reduceLeDiff, Nat.reduceLT, Nat.reduceBEq, Nat.reduceBNe, reduceCtorEq]
theorem up79 {m E e h : Int} {neg o : Bool} {s : List UInt8} {W Q : Nat} {ex : List (Nat × AV)} (hQ : nd Q < 20000) (hW : nd W < 30000) (hE : -1000000 < E ∧ E < 1000000) (ho : o = decide (Q % 2 = 1)) :
    VC e0 ic79_2 (retQ [(8, (some (some 3))), (9, none)] (.tup [N neg ((Q + if awayB m neg o h = true then 1 else 0) * W) E, i64 0])) ⟨(0, i64 m) :: (5, .box 5 0) :: (8, .box 8 0) :: (10, i64 E) :: (11, .str (digs W)) :: (12, .str (digs Q)) :: (15, i64 h) :: ex, [(5, .box 23 [.bool neg, .str s, i64 e]), (8, .box 23 [.bool false, .str [], i64 0])]⟩ := by
  have c109 := con109 m neg o h
  have c108 := con108 (a := digs Q) (b := [49]) (dgs_digs _) rfl (by rw [nd_len]; omega) (by decide)
  rw [dv_digs, show dv [49] = 1 from rfl] at c108
  have hn1 := nd_succ Q
  have f1 := fun ex => end79 (ex := ex) (e := e) (s := s) (neg := neg) (W := W) (Q := Q + 1) (E := E) (by omega) hW hE
  have f0 := fun ex => end79 (ex := ex) (e := e) (s := s) (neg := neg) (W := W) (Q := Q) (E := E) (by omega) hW hE
  have e0' : ((digs Q).length : Int) = (nd Q : Int) := rfl
  by_cases hz : Q = 0
  · subst hz
    have e1 : decide (((nd 0 : Nat) : Int) > 0) = false := by rw [nd_zero]; rfl
    have hof : o = false := ho
    cases ha : awayB m neg o h with
    | false =>
      rw [ha] at c109
      rw [if_neg (by simp), Nat.add_zero]
      simp only [ic79_2, wkA, Nat.reduceEqDiff, Nat.reduceAdd, Nat.reduceSub, Nat.reduceLeDiff, Nat.reduceLT, Nat.reduceBEq, Nat.reduceBNe, reduceCtorEq, e0', e1]
      rw [hof] at c109
      refine callF c109 rfl ?_
      simp only [wkA, Nat.reduceEqDiff, Nat.reduceAdd, Nat.reduceSub, Nat.reduceLeDiff, Nat.reduceLT, Nat.reduceBEq, Nat.reduceBNe, reduceCtorEq]
      exact f0 _
    | true =>
      rw [ha] at c109
      rw [if_pos rfl]
      simp only [ic79_2, wkA, Nat.reduceEqDiff, Nat.reduceAdd, Nat.reduceSub, Nat.reduceLeDiff, Nat.reduceLT, Nat.reduceBEq, Nat.reduceBNe, reduceCtorEq, e0', e1]
      rw [hof] at c109
      refine callF c109 rfl ?_
      simp only [wkA, Nat.reduceEqDiff, Nat.reduceAdd, Nat.reduceSub, Nat.reduceLeDiff, Nat.reduceLT, Nat.reduceBEq, Nat.reduceBNe, reduceCtorEq]
      refine callF c108 rfl ?_
      simp only [wkA, Nat.reduceEqDiff, Nat.reduceAdd, Nat.reduceSub, Nat.reduceLeDiff, Nat.reduceLT, Nat.reduceBEq, Nat.reduceBNe, reduceCtorEq]
      exact f1 _
  · have hp := nd_ne hz
    have e1 : decide (((nd Q : Nat) : Int) > 0) = true := decide_eq_true (by omega)
    have w1 : IntKind.i64.wrap (((nd Q : Nat) : Int) - 1) = ((nd Q - 1 : Nat) : Int) := by rw [wrap64] <;> omega
    have hg : ((digs Q).getD (nd Q - 1) 0).toNat = 48 + Q % 10 := by
      have h1 := digs_pos hz
      have h2 : nd Q = nd (Q / 10) + 1 := nd_pos hz
      rw [h1, h2, Nat.add_sub_cancel, List.getD_eq_getElem?_getD, List.getElem?_append_right (by rw [nd_len]; omega), nd_len, Nat.sub_self]
      simp only [List.getElem?_cons_zero, Option.getD_some, dc]
      exact ofNat_dg _ (Nat.mod_lt _ (by decide))
    have w2 : IntKind.u8.wrap (((48 + Q % 10 : Nat) : Int) - 48) = ((Q % 10 : Nat) : Int) := by
      simp only [IntKind.wrap, IntKind.signed, IntKind.bits, Bool.false_and, Bool.false_eq_true, if_false]
      omega
    have w3 : ((Q % 10 : Nat) : Int).tmod 2 = ((Q % 2 : Nat) : Int) := by
      rw [show Q % 2 = Q % 10 % 2 by omega]; exact Int.ofNat_tmod _ _
    have w4 : (((Q % 2 : Nat) : Int) == 1) = o := by
      rw [ho, Bool.eq_iff_iff, beq_iff_eq, decide_eq_true_eq]; omega
    have two : ¬ (2 : Int) = 0 := by decide
    cases ha : awayB m neg o h with
    | false =>
      rw [ha] at c109
      rw [if_neg (by simp), Nat.add_zero]
      simp only [ic79_2, wkA, Nat.reduceEqDiff, Nat.reduceAdd, Nat.reduceSub, Nat.reduceLeDiff, Nat.reduceLT, Nat.reduceBEq, Nat.reduceBNe, reduceCtorEq, e0', e1, w1, Int.toNat_natCast, hg, w2, w3, w4]
      refine ⟨by omega, two, callF c109 rfl ?_⟩
      simp only [wkA, Nat.reduceEqDiff, Nat.reduceAdd, Nat.reduceSub, Nat.reduceLeDiff, Nat.reduceLT, Nat.reduceBEq, Nat.reduceBNe, reduceCtorEq]
      exact f0 _
    | true =>
      rw [ha] at c109
      rw [if_pos rfl]
      simp only [ic79_2, wkA, Nat.reduceEqDiff, Nat.reduceAdd, Nat.reduceSub, Nat.reduceLeDiff, Nat.reduceLT, Nat.reduceBEq, Nat.reduceBNe, reduceCtorEq, e0', e1, w1, Int.toNat_natCast, hg, w2, w3, w4]
      refine ⟨by omega, two, callF c109 rfl ?_⟩
      simp only [wkA, Nat.reduceEqDiff, Nat.reduceAdd, Nat.reduceSub, Nat.reduceLeDiff, Nat.reduceLT, Nat.reduceBEq, Nat.reduceBNe, reduceCtorEq]
      refine callF c108 rfl ?_
      simp only [wkA, Nat.reduceEqDiff, Nat.reduceAdd, Nat.reduceSub, Nat.reduceLeDiff, Nat.reduceLT, Nat.reduceBEq, Nat.reduceBNe, reduceCtorEq]
      exact f1 _
theorem con79 {neg : Bool} {s t : List UInt8} {m e p : Int} (hs : okD s e) (ht : dgs t = true) (h0 : dv t ≠ 0) (hm : good8 m = true) (hl : s.length < 3000) (he : -5000 < e ∧ e < 5000) (hp : -5000 < p ∧ p < 5000) (htl : t.length < 3000) :
    Fn 79 [i64 m, D neg s e, .str t, i64 p] (inS m neg (dv s) e (dv t) p).av := by
  obtain ⟨E, hE⟩ : ∃ E, E = if p < e then p else e := ⟨_, rfl⟩
  have hEb : E ≤ e ∧ E ≤ p ∧ -5000 < E := by rw [hE]; split <;> omega
  have hR : inS m neg (dv s) e (dv t) p = if dv s * 10 ^ (e - E).toNat % (dv t * 10 ^ (p - E).toNat) = 0 then .ok neg (dv s) e else if m = 7 then .err 11 else .ok neg (rq m neg (dv s * 10 ^ (e - E).toNat) (dv t * 10 ^ (p - E).toNat) * (dv t * 10 ^ (p - E).toNat)) E := by
    unfold inS
    simp only
    rw [← hE, if_neg (by rw [hm]; simp)]
  rw [hR]
  have hA : nd (dv s * 10 ^ (e - E).toNat) ≤ nd (dv s) + (e - E).toNat := nd_mul_le
  have hW : nd (dv t * 10 ^ (p - E).toNat) ≤ nd (dv t) + (p - E).toNat := nd_mul_le
  have hds := nd_dv hs.1
  have hdt := nd_dv ht
  have c59 := con59 t (by omega)
  rw [← digs_dv ht] at c59
  have c60 := con60 (m := p - E) (by omega)
  have hby : digs (dv t) ++ noughts (p - E).toNat = digs (dv t * 10 ^ (p - E).toNat) := (digs_mul h0 _).symm
  have c34 := con34 (neg := neg) hs hEb.1 (by omega)
  have hWp : 0 < dv t * 10 ^ (p - E).toNat := Nat.mul_pos (Nat.pos_of_ne_zero h0) (Nat.pow_pos (by decide))
  have c50 := con50 (neg := neg) hs
  have w1 : IntKind.i64.wrap (p - E) = p - E := by rw [wrap64] <;> omega
  have hlen : (digs (dv t)).length = nd (dv t) := rfl
  have hlen2 : (noughts (p - E).toNat).length = (p - E).toNat := by simp [noughts]
  generalize hAe : dv s * 10 ^ (e - E).toNat = A at *
  generalize hWe : dv t * 10 ^ (p - E).toNat = W at *
  have c107 := con107 (a := digs A) (B := W) (dgs_digs _) (by rw [nd_len]; omega) hWp (by omega)
  rw [dv_digs] at c107
  have hRn : nd (A % W) ≤ nd W := nd_mono (Nat.le_of_lt (Nat.mod_lt _ hWp))
  have c108 := con108 (a := digs (A % W)) (b := digs (A % W)) (dgs_digs _) (dgs_digs _) (by rw [nd_len]; omega) (by rw [nd_len]; omega)
  rw [dv_digs, ← Nat.two_mul] at c108
  have h2n : nd (2 * (A % W)) ≤ nd W + 1 := by
    refine nd_le ?_
    rw [Nat.pow_succ]
    have := lt_nd W
    have := Nat.mod_lt A hWp
    omega
  have c35a := con35 (2 * (A % W)) W (by omega) (by omega)
  have c35b := con35 W (2 * (A % W)) (by omega) (by omega)
  have hQn : nd (A / W) ≤ nd A := nd_mono (Nat.div_le_self _ _)
  have fin : ∀ (h : Int) (ex : List (Nat × AV)), h = cmpI ((2 * (A % W) : Nat) : Int) (W : Nat) → VC e0 ic79_2 (retQ [(8, (some (some 3))), (9, none)] (.tup [N neg (rq m neg A W * W) E, i64 0])) ⟨(0, i64 m) :: (5, .box 5 0) :: (8, .box 8 0) :: (10, i64 E) :: (11, .str (digs W)) :: (12, .str (digs (A / W))) :: (15, i64 h) :: ex, [(5, .box 23 [.bool neg, .str s, i64 e]), (8, .box 23 [.bool false, .str [], i64 0])]⟩ := by
    intro h ex hh
    have := up79 (ex := ex) (m := m) (E := E) (e := e) (h := h) (neg := neg) (o := decide (A / W % 2 = 1)) (s := s) (W := W) (Q := A / W) (by omega) (by omega) (by omega) rfl
    rw [hh] at this ⊢
    exact this
  simp only [D] at c34
  have st6 : ∀ r, (∀ ex : List (Nat × AV), VC e0 ic79_6 (retQ [(8, (some (some 3))), (9, none)] r) ⟨(0, i64 m) :: (2, .str t) :: (3, i64 p) :: (5, .box 5 0) :: (8, .box 8 0) :: (10, i64 E) :: ex, [(5, .box 23 [.bool neg, .str s, i64 e]), (8, .box 23 [.bool false, .str [], i64 0])]⟩) → Fn 79 [i64 m, D neg s e, .str t, i64 p] r := by
    intro r hr
    refine e79 (by simp) ?_
    by_cases hlt : p < e
    · have d1 : decide (p < e) = true := decide_eq_true hlt
      rw [if_pos hlt] at hE
      subst hE
      simp only [D, ic79, wkA, Nat.reduceEqDiff, Nat.reduceAdd, Nat.reduceSub, Nat.reduceLeDiff, Nat.reduceLT, Nat.reduceBEq, Nat.reduceBNe, reduceCtorEq, d1]
      exact hr _
    · have d1 : decide (p < e) = false := decide_eq_false hlt
      rw [if_neg hlt] at hE
      subst hE
      simp only [D, ic79, wkA, Nat.reduceEqDiff, Nat.reduceAdd, Nat.reduceSub, Nat.reduceLeDiff, Nat.reduceLT, Nat.reduceBEq, Nat.reduceBNe, reduceCtorEq, d1]
      exact hr _
  refine st6 _ fun ex => ?_
  by_cases hz : A % W = 0
  · rw [if_pos hz]
    have z1 : (digs (A % W) == ([] : List UInt8)) = true := by rw [hz, digs_zero]; rfl
    simp only [N, D] at c50
    change VC e0 ic79_6 (retQ _ (.tup [.agg [.bool neg, .str (text (core (dv s))), i64 (ne (dv s) e)], i64 0])) _
    generalize text (core (dv s)) = tx at *
    generalize ne (dv s) e = xx at *
    simp only [ic79_6, wkA, Nat.reduceEqDiff, Nat.reduceAdd, Nat.reduceSub, Nat.reduceLeDiff, Nat.reduceLT, Nat.reduceBEq, Nat.reduceBNe, reduceCtorEq, w1]
    refine callF c59 rfl ?_
    simp only [wkA, Nat.reduceEqDiff, Nat.reduceAdd, Nat.reduceSub, Nat.reduceLeDiff, Nat.reduceLT, Nat.reduceBEq, Nat.reduceBNe, reduceCtorEq, w1]
    refine callF c60 rfl ?_
    simp only [wkA, Nat.reduceEqDiff, Nat.reduceAdd, Nat.reduceSub, Nat.reduceLeDiff, Nat.reduceLT, Nat.reduceBEq, Nat.reduceBNe, reduceCtorEq, hby, hlen, hlen2]
    refine ⟨by omega, callF c34 rfl ?_⟩
    simp only [wkA, Nat.reduceEqDiff, Nat.reduceAdd, Nat.reduceSub, Nat.reduceLeDiff, Nat.reduceLT, Nat.reduceBEq, Nat.reduceBNe, reduceCtorEq]
    refine callF c107 rfl ?_
    simp only [wkA, Nat.reduceEqDiff, Nat.reduceAdd, Nat.reduceSub, Nat.reduceLeDiff, Nat.reduceLT, Nat.reduceBEq, Nat.reduceBNe, reduceCtorEq, z1]
    refine callF c50 rfl ?_
    simp only [wkA, Nat.reduceEqDiff, Nat.reduceAdd, Nat.reduceSub, Nat.reduceLeDiff, Nat.reduceLT, Nat.reduceBEq, Nat.reduceBNe, reduceCtorEq]
  · rw [if_neg hz]
    have z1 : (digs (A % W) == ([] : List UInt8)) = false := by rw [strBeq, decide_eq_false_iff_not, digs_nil]; exact hz
    by_cases h7 : m = 7
    · subst h7
      rw [if_pos rfl]
      have z7 : ((7 : Int) == 7) = true := rfl
      change VC e0 ic79_6 (retQ _ (.tup [.agg [.bool false, .str [], i64 0], i64 11])) _
      simp only [ic79_6, wkA, Nat.reduceEqDiff, Nat.reduceAdd, Nat.reduceSub, Nat.reduceLeDiff, Nat.reduceLT, Nat.reduceBEq, Nat.reduceBNe, reduceCtorEq, w1]
      refine callF c59 rfl ?_
      simp only [wkA, Nat.reduceEqDiff, Nat.reduceAdd, Nat.reduceSub, Nat.reduceLeDiff, Nat.reduceLT, Nat.reduceBEq, Nat.reduceBNe, reduceCtorEq, w1]
      refine callF c60 rfl ?_
      simp only [wkA, Nat.reduceEqDiff, Nat.reduceAdd, Nat.reduceSub, Nat.reduceLeDiff, Nat.reduceLT, Nat.reduceBEq, Nat.reduceBNe, reduceCtorEq, hby, hlen, hlen2]
      refine ⟨by omega, callF c34 rfl ?_⟩
      simp only [wkA, Nat.reduceEqDiff, Nat.reduceAdd, Nat.reduceSub, Nat.reduceLeDiff, Nat.reduceLT, Nat.reduceBEq, Nat.reduceBNe, reduceCtorEq]
      refine callF c107 rfl ?_
      simp only [wkA, Nat.reduceEqDiff, Nat.reduceAdd, Nat.reduceSub, Nat.reduceLeDiff, Nat.reduceLT, Nat.reduceBEq, Nat.reduceBNe, reduceCtorEq, z1]
      simp only [ic79_5, wkA, Nat.reduceEqDiff, Nat.reduceAdd, Nat.reduceSub, Nat.reduceLeDiff, Nat.reduceLT, Nat.reduceBEq, Nat.reduceBNe, reduceCtorEq, z7]
    · rw [if_neg h7]
      have z7 : (m == 7) = false := by simp [h7]
      simp only [ic79_6, wkA, Nat.reduceEqDiff, Nat.reduceAdd, Nat.reduceSub, Nat.reduceLeDiff, Nat.reduceLT, Nat.reduceBEq, Nat.reduceBNe, reduceCtorEq, w1]
      refine callF c59 rfl ?_
      simp only [wkA, Nat.reduceEqDiff, Nat.reduceAdd, Nat.reduceSub, Nat.reduceLeDiff, Nat.reduceLT, Nat.reduceBEq, Nat.reduceBNe, reduceCtorEq, w1]
      refine callF c60 rfl ?_
      simp only [wkA, Nat.reduceEqDiff, Nat.reduceAdd, Nat.reduceSub, Nat.reduceLeDiff, Nat.reduceLT, Nat.reduceBEq, Nat.reduceBNe, reduceCtorEq, hby, hlen, hlen2]
      refine ⟨by omega, callF c34 rfl ?_⟩
      simp only [wkA, Nat.reduceEqDiff, Nat.reduceAdd, Nat.reduceSub, Nat.reduceLeDiff, Nat.reduceLT, Nat.reduceBEq, Nat.reduceBNe, reduceCtorEq]
      refine callF c107 rfl ?_
      simp only [wkA, Nat.reduceEqDiff, Nat.reduceAdd, Nat.reduceSub, Nat.reduceLeDiff, Nat.reduceLT, Nat.reduceBEq, Nat.reduceBNe, reduceCtorEq, z1]
      simp only [ic79_5, wkA, Nat.reduceEqDiff, Nat.reduceAdd, Nat.reduceSub, Nat.reduceLeDiff, Nat.reduceLT, Nat.reduceBEq, Nat.reduceBNe, reduceCtorEq, z7]
      simp only [ic79_4, wkA, Nat.reduceEqDiff, Nat.reduceAdd, Nat.reduceSub, Nat.reduceLeDiff, Nat.reduceLT, Nat.reduceBEq, Nat.reduceBNe, reduceCtorEq]
      refine callF c108 rfl ?_
      simp only [wkA, Nat.reduceEqDiff, Nat.reduceAdd, Nat.reduceSub, Nat.reduceLeDiff, Nat.reduceLT, Nat.reduceBEq, Nat.reduceBNe, reduceCtorEq]
      refine callF c35a rfl ?_
      by_cases l1 : 2 * (A % W) < W
      · have l2 : ¬ W < 2 * (A % W) := by omega
        rw [decide_eq_true l1]
        rw [decide_eq_false l2] at c35b
        simp only [wkA, Nat.reduceEqDiff, Nat.reduceAdd, Nat.reduceSub, Nat.reduceLeDiff, Nat.reduceLT, Nat.reduceBEq, Nat.reduceBNe, reduceCtorEq]
        simp only [ic79_3, wkA, Nat.reduceEqDiff, Nat.reduceAdd, Nat.reduceSub, Nat.reduceLeDiff, Nat.reduceLT, Nat.reduceBEq, Nat.reduceBNe, reduceCtorEq]
        refine callF c35b rfl ?_
        simp only [wkA, Nat.reduceEqDiff, Nat.reduceAdd, Nat.reduceSub, Nat.reduceLeDiff, Nat.reduceLT, Nat.reduceBEq, Nat.reduceBNe, reduceCtorEq]
        exact fin (-1) _ (by unfold cmpI; rw [if_pos (by omega)])
      · rw [decide_eq_false l1]
        by_cases l2 : W < 2 * (A % W)
        · rw [decide_eq_true l2] at c35b
          simp only [wkA, Nat.reduceEqDiff, Nat.reduceAdd, Nat.reduceSub, Nat.reduceLeDiff, Nat.reduceLT, Nat.reduceBEq, Nat.reduceBNe, reduceCtorEq]
          simp only [ic79_3, wkA, Nat.reduceEqDiff, Nat.reduceAdd, Nat.reduceSub, Nat.reduceLeDiff, Nat.reduceLT, Nat.reduceBEq, Nat.reduceBNe, reduceCtorEq]
          refine callF c35b rfl ?_
          simp only [wkA, Nat.reduceEqDiff, Nat.reduceAdd, Nat.reduceSub, Nat.reduceLeDiff, Nat.reduceLT, Nat.reduceBEq, Nat.reduceBNe, reduceCtorEq]
          exact fin 1 _ (by unfold cmpI; rw [if_neg (by omega), if_pos (by omega)])
        · rw [decide_eq_false l2] at c35b
          simp only [wkA, Nat.reduceEqDiff, Nat.reduceAdd, Nat.reduceSub, Nat.reduceLeDiff, Nat.reduceLT, Nat.reduceBEq, Nat.reduceBNe, reduceCtorEq]
          simp only [ic79_3, wkA, Nat.reduceEqDiff, Nat.reduceAdd, Nat.reduceSub, Nat.reduceLeDiff, Nat.reduceLT, Nat.reduceBEq, Nat.reduceBNe, reduceCtorEq]
          refine callF c35b rfl ?_
          simp only [wkA, Nat.reduceEqDiff, Nat.reduceAdd, Nat.reduceSub, Nat.reduceLeDiff, Nat.reduceLT, Nat.reduceBEq, Nat.reduceBNe, reduceCtorEq]
          exact fin 0 _ (by unfold cmpI; rw [if_neg (by omega), if_neg (by omega)])
theorem cntI_pos (l : List (Int × Int)) (k : Int) : (0 < cntI l k) ↔ (l.any fun x => x.1 == k) = true := by
  unfold cntI
  rw [List.length_pos_iff, List.any_eq_true]
  constructor
  · intro h
    obtain ⟨x, hx⟩ := List.exists_mem_of_ne_nil _ h
    rw [List.mem_filter] at hx
    exact ⟨x, hx.1, hx.2⟩
  · rintro ⟨x, h1, h2⟩ h
    have : x ∈ l.filter fun x => x.1 == k := List.mem_filter.2 ⟨h1, h2⟩
    rw [h] at this
    cases this
theorem sigT_pos (p : Pat) (k : Int) : decide ((sigT p k 0 : Int) > 0) = p.has k := by
  rw [Bool.eq_iff_iff, decide_eq_true_eq]
  unfold Pat.has sigT four
  rw [List.any_append, List.any_append, List.any_append, Bool.or_eq_true, Bool.or_eq_true, Bool.or_eq_true, ← cntI_pos, ← cntI_pos, ← cntI_pos, ← cntI_pos]
  simp only [List.drop_zero, List.map_cons, List.map_nil, List.sum_cons, List.sum_nil]
  omega
theorem con23 {p : Pat} (h : p.Ok) : Fn 23 [p.av] (i64 p.mult) := by
  have hl := h.lens
  simp only [List.length_append] at hl
  have h4 : ∀ l ∈ four p, l.length ≤ 1000 := by
    intro l hm
    simp only [four, List.mem_cons, List.not_mem_nil, or_false] at hm
    rcases hm with rfl | rfl | rfl | rfl <;> omega
  have c4 := con53 4 h4
  have c5 := con53 5 h4
  have e4 := sigT_pos p 4
  have e5 := sigT_pos p 5
  refine e23 (by simp) ?_
  unfold Pat.mult
  simp only [Pat.av, items] at c4 c5
  cases h1 : p.has 4 with
  | true =>
    rw [h1] at e4
    simp only [Pat.av, items, ic23, wkA, Nat.reduceEqDiff, Nat.reduceAdd, Nat.reduceSub, Nat.reduceLeDiff, Nat.reduceLT, Nat.reduceBEq, Nat.reduceBNe, reduceCtorEq]
    refine callF c4 rfl ?_
    simp only [wkA, Nat.reduceEqDiff, Nat.reduceAdd, Nat.reduceSub, Nat.reduceLeDiff, Nat.reduceLT, Nat.reduceBEq, Nat.reduceBNe, reduceCtorEq, e4]
    rfl
  | false =>
    rw [h1] at e4
    cases h2 : p.has 5 with
    | true =>
      rw [h2] at e5
      simp only [Pat.av, items, ic23, wkA, Nat.reduceEqDiff, Nat.reduceAdd, Nat.reduceSub, Nat.reduceLeDiff, Nat.reduceLT, Nat.reduceBEq, Nat.reduceBNe, reduceCtorEq]
      refine callF c4 rfl ?_
      simp only [wkA, Nat.reduceEqDiff, Nat.reduceAdd, Nat.reduceSub, Nat.reduceLeDiff, Nat.reduceLT, Nat.reduceBEq, Nat.reduceBNe, reduceCtorEq, e4]
      simp only [ic23_2, wkA, Nat.reduceEqDiff, Nat.reduceAdd, Nat.reduceSub, Nat.reduceLeDiff, Nat.reduceLT, Nat.reduceBEq, Nat.reduceBNe, reduceCtorEq]
      refine callF c5 rfl ?_
      simp only [wkA, Nat.reduceEqDiff, Nat.reduceAdd, Nat.reduceSub, Nat.reduceLeDiff, Nat.reduceLT, Nat.reduceBEq, Nat.reduceBNe, reduceCtorEq, e5]
      rfl
    | false =>
      rw [h2] at e5
      simp only [Pat.av, items, ic23, wkA, Nat.reduceEqDiff, Nat.reduceAdd, Nat.reduceSub, Nat.reduceLeDiff, Nat.reduceLT, Nat.reduceBEq, Nat.reduceBNe, reduceCtorEq]
      refine callF c4 rfl ?_
      simp only [wkA, Nat.reduceEqDiff, Nat.reduceAdd, Nat.reduceSub, Nat.reduceLeDiff, Nat.reduceLT, Nat.reduceBEq, Nat.reduceBNe, reduceCtorEq, e4]
      simp only [ic23_2, wkA, Nat.reduceEqDiff, Nat.reduceAdd, Nat.reduceSub, Nat.reduceLeDiff, Nat.reduceLT, Nat.reduceBEq, Nat.reduceBNe, reduceCtorEq]
      refine callF c5 rfl ?_
      simp only [wkA, Nat.reduceEqDiff, Nat.reduceAdd, Nat.reduceSub, Nat.reduceLeDiff, Nat.reduceLT, Nat.reduceBEq, Nat.reduceBNe, reduceCtorEq, e5]
      simp only [ic23_1, wkA, Nat.reduceEqDiff, Nat.reduceAdd, Nat.reduceSub, Nat.reduceLeDiff, Nat.reduceLT, Nat.reduceBEq, Nat.reduceBNe, reduceCtorEq]
      rfl
theorem most_ge {p : Pat} (h : p.Ok) : 1 ≤ p.most ∧ p.least ≤ p.most ∧ p.most ≤ 80 := by
  have hc := h.cnt
  have hm := Pat.most_le h
  refine ⟨?_, ?_, hm⟩
  · unfold Pat.most Pat.whole
    split
    · omega
    · split <;> omega
  · unfold Pat.most Pat.least
    split <;> omega
theorem plS_in {m : Int} {neg : Bool} {c : Nat} {e p : Int} (hm : good8 m = true) : (inS m neg c e 1 p).av = (plS m neg c e p).av := by
  unfold inS plS
  simp only
  have h8 : ¬ good8 m = false := by rw [hm]; simp
  rw [if_neg h8, if_neg h8]
  by_cases hle : p ≤ e
  · have hf : fits c e p = true := by simp [fits, hle]
    have hE : (if p < e then p else e) = p := by split <;> omega
    rw [hE, hf, Int.sub_self, Int.toNat_zero, Nat.pow_zero, Nat.mul_one, if_pos (Nat.mod_one _), if_pos rfl]
  · have hE : (if p < e then p else e) = e := by split <;> omega
    rw [hE, Int.sub_self, Int.toNat_zero, Nat.pow_zero, Nat.mul_one, Nat.one_mul]
    have hf : fits c e p = decide (c % 10 ^ (p - e).toNat = 0) := by simp [fits, hle]
    rw [hf]
    by_cases hz : c % 10 ^ (p - e).toNat = 0
    · have h9 : decide (c % 10 ^ (p - e).toNat = 0) = true := decide_eq_true hz
      rw [if_pos hz, if_pos h9]
    · have h9 : ¬ decide (c % 10 ^ (p - e).toNat = 0) = true := by simp [hz]
      rw [if_neg hz, if_neg h9]
      split
      · rfl
      · simp only [Rs.av, N]
        rw [core_mul10', ne_mul10, show e + ((p - e).toNat : Int) = p by omega]
theorem con47 {p : Pat} (h : p.Ok) {m : Int} {neg : Bool} {s : List UInt8} {e : Int} (hs : okD s e) (hm : good8 m = true) (he : -3500 < e ∧ e < 3500) (hl : s.length < 1200) : Fn 47 [p.av, i64 m, D neg s e] (rdS p m neg (dv s) e).av := by
  have hc := h.cnt
  have hmo := most_ge h
  have c25 := con25 h
  have c51 := con51 (neg := neg) hs
  have hnd := nd_dv hs.1
  have htop : -3501 < top (dv s) e ∧ top (dv s) e < 4800 := by unfold top; split <;> omega
  have one : ∀ q : Int, -5000 < q ∧ q < 5000 → Fn 79 [i64 m, D neg s e, .str [49], i64 q] (plS m neg (dv s) e q).av := by
    intro q hq
    have := con79 (neg := neg) (t := [49]) (p := q) hs rfl (by decide) hm (by omega) (by omega) hq (by decide)
    rw [show dv [49] = 1 from rfl, plS_in hm] at this
    exact this
  have w0 : IntKind.i64.wrap (0 - (p.maxFrac : Int)) = -(p.maxFrac : Int) := by rw [wrap64] <;> omega
  have w1 : IntKind.i64.wrap (top (dv s) e - (p.most : Int)) = top (dv s) e - p.most := by rw [wrap64] <;> omega
  have w2 : IntKind.i64.wrap (top (dv s) e - (p.most : Int) + 1) = top (dv s) e - p.most + 1 := by rw [wrap64] <;> omega
  have hsg : (p.sci = true ∨ 0 < p.minSig) → rdS p m neg (dv s) e = plS m neg (dv s) e (top (dv s) e - p.most + 1) := by
    intro hx
    rw [rdS, if_pos hx, sgS, if_neg (by omega)]
  refine e47 (by simp) ?_
  cases h1 : p.sci with
  | true =>
    rw [hsg (.inl h1)]
    have c79 := one (top (dv s) e - p.most + 1) (by omega)
    obtain ⟨a, b, d, k, hab⟩ := Rs.two (plS m neg (dv s) e (top (dv s) e - p.most + 1))
    rw [hab] at c79 ⊢
    generalize top (dv s) e = tp at *
    simp only [Pat.av, items, D, ic47, wkA, Nat.reduceEqDiff, Nat.reduceAdd, Nat.reduceSub, Nat.reduceLeDiff, Nat.reduceLT, Nat.reduceBEq, Nat.reduceBNe, reduceCtorEq, h1] at c25 c51 c79 ⊢
    refine callF c25 rfl ?_
    simp only [wkA, Nat.reduceEqDiff, Nat.reduceAdd, Nat.reduceSub, Nat.reduceLeDiff, Nat.reduceLT, Nat.reduceBEq, Nat.reduceBNe, reduceCtorEq]
    refine callFD c51 rfl ?_
    simp only [wkA, Nat.reduceEqDiff, Nat.reduceAdd, Nat.reduceSub, Nat.reduceLeDiff, Nat.reduceLT, Nat.reduceBEq, Nat.reduceBNe, reduceCtorEq, w1, w2]
    refine callFD c79 rfl ?_
    simp only [wkA, Nat.reduceEqDiff, Nat.reduceAdd, Nat.reduceSub, Nat.reduceLeDiff, Nat.reduceLT, Nat.reduceBEq, Nat.reduceBNe, reduceCtorEq]
  | false =>
    by_cases h2 : 0 < p.minSig
    · have e1 : decide ((p.minSig : Int) > 0) = true := decide_eq_true (by omega)
      rw [hsg (.inr h2)]
      have c79 := one (top (dv s) e - p.most + 1) (by omega)
      obtain ⟨a, b, d, k, hab⟩ := Rs.two (plS m neg (dv s) e (top (dv s) e - p.most + 1))
      rw [hab] at c79 ⊢
      generalize top (dv s) e = tp at *
      simp only [Pat.av, items, D, ic47, wkA, Nat.reduceEqDiff, Nat.reduceAdd, Nat.reduceSub, Nat.reduceLeDiff, Nat.reduceLT, Nat.reduceBEq, Nat.reduceBNe, reduceCtorEq, h1, e1] at c25 c51 c79 ⊢
      refine callF c25 rfl ?_
      simp only [wkA, Nat.reduceEqDiff, Nat.reduceAdd, Nat.reduceSub, Nat.reduceLeDiff, Nat.reduceLT, Nat.reduceBEq, Nat.reduceBNe, reduceCtorEq]
      refine callFD c51 rfl ?_
      simp only [wkA, Nat.reduceEqDiff, Nat.reduceAdd, Nat.reduceSub, Nat.reduceLeDiff, Nat.reduceLT, Nat.reduceBEq, Nat.reduceBNe, reduceCtorEq, w1, w2]
      refine callFD c79 rfl ?_
      simp only [wkA, Nat.reduceEqDiff, Nat.reduceAdd, Nat.reduceSub, Nat.reduceLeDiff, Nat.reduceLT, Nat.reduceBEq, Nat.reduceBNe, reduceCtorEq]
    · have e1 : decide ((p.minSig : Int) > 0) = false := decide_eq_false (by omega)
      rw [rdS, if_neg (by rw [h1]; simp; omega)]
      by_cases h3 : p.inc = []
      · have e2 : (p.inc != []) = false := by rw [h3]; rfl
        rw [if_neg (by simp [h3])]
        have c79 := one (-(p.maxFrac : Int)) (by omega)
        obtain ⟨a, b, d, k, hab⟩ := Rs.two (plS m neg (dv s) e (-(p.maxFrac : Int)))
        rw [hab] at c79 ⊢
        simp only [Pat.av, items, D, ic47, wkA, Nat.reduceEqDiff, Nat.reduceAdd, Nat.reduceSub, Nat.reduceLeDiff, Nat.reduceLT, Nat.reduceBEq, Nat.reduceBNe, reduceCtorEq, h1, e1] at c79 ⊢
        simp only [ic47_2, wkA, Nat.reduceEqDiff, Nat.reduceAdd, Nat.reduceSub, Nat.reduceLeDiff, Nat.reduceLT, Nat.reduceBEq, Nat.reduceBNe, reduceCtorEq, e2]
        simp only [ic47_1, wkA, Nat.reduceEqDiff, Nat.reduceAdd, Nat.reduceSub, Nat.reduceLeDiff, Nat.reduceLT, Nat.reduceBEq, Nat.reduceBNe, reduceCtorEq, w0]
        refine callF c79 rfl ?_
        simp only [wkA, Nat.reduceEqDiff, Nat.reduceAdd, Nat.reduceSub, Nat.reduceLeDiff, Nat.reduceLT, Nat.reduceBEq, Nat.reduceBNe, reduceCtorEq]
      · have e2 : (p.inc != []) = true := by simp [h3]
        rw [if_pos h3]
        have c79 := con79 (neg := neg) (t := p.inc) (p := -(p.maxFrac : Int)) hs h.inc.1 (h.inc.2.2 h3) hm (by omega) (by omega) (by omega) (by have := h.inc.2.1; omega)
        obtain ⟨a, b, d, k, hab⟩ := Rs.two (inS m neg (dv s) e (dv p.inc) (-(p.maxFrac : Int)))
        rw [hab] at c79 ⊢
        simp only [Pat.av, items, D, ic47, wkA, Nat.reduceEqDiff, Nat.reduceAdd, Nat.reduceSub, Nat.reduceLeDiff, Nat.reduceLT, Nat.reduceBEq, Nat.reduceBNe, reduceCtorEq, h1, e1] at c79 ⊢
        simp only [ic47_2, wkA, Nat.reduceEqDiff, Nat.reduceAdd, Nat.reduceSub, Nat.reduceLeDiff, Nat.reduceLT, Nat.reduceBEq, Nat.reduceBNe, reduceCtorEq, e2, w0]
        refine callF c79 rfl ?_
        simp only [wkA, Nat.reduceEqDiff, Nat.reduceAdd, Nat.reduceSub, Nat.reduceLeDiff, Nat.reduceLT, Nat.reduceBEq, Nat.reduceBNe, reduceCtorEq]
theorem con19 {p : Pat} (h : p.Ok) {m : Int} {neg : Bool} {s : List UInt8} {e : Int} (hsl : s.length < 1099511627776) : Fn 19 [p.av, i64 m, D neg s e] (shS p m neg s e).av := by
  have c32 := con32 (neg := neg) (e := e) hsl
  have c23 := con23 h
  refine e19 (by simp) ?_
  unfold shS
  by_cases hm0 : m < 0
  · have e1 : decide (m < 0) = true := decide_eq_true hm0
    rw [if_pos (by simp [good8]; omega)]
    simp only [Rs.av, zD, Pat.av, items, D, ic19, wkA, Nat.reduceEqDiff, Nat.reduceAdd, Nat.reduceSub, Nat.reduceLeDiff, Nat.reduceLT, Nat.reduceBEq, Nat.reduceBNe, reduceCtorEq, e1]
  · have e1 : decide (m < 0) = false := decide_eq_false hm0
    by_cases hm7 : m > 7
    · have e2 : decide (m > 7) = true := decide_eq_true hm7
      rw [if_pos (by simp [good8]; omega)]
      simp only [Rs.av, zD, Pat.av, items, D, ic19, wkA, Nat.reduceEqDiff, Nat.reduceAdd, Nat.reduceSub, Nat.reduceLeDiff, Nat.reduceLT, Nat.reduceBEq, Nat.reduceBNe, reduceCtorEq, e1, e2]
    · have e2 : decide (m > 7) = false := decide_eq_false hm7
      have hg8 : good8 m = true := by simp [good8]; omega
      rw [if_neg (by simp [hg8])]
      cases h2 : goodD s e with
      | false =>
        rw [h2] at c32
        rw [if_pos rfl]
        simp only [Rs.av, zD, Pat.av, items, D, ic19, wkA, Nat.reduceEqDiff, Nat.reduceAdd, Nat.reduceSub, Nat.reduceLeDiff, Nat.reduceLT, Nat.reduceBEq, Nat.reduceBNe, reduceCtorEq, e1, e2] at c32 ⊢
        simp only [ic19_5, wkA, Nat.reduceEqDiff, Nat.reduceAdd, Nat.reduceSub, Nat.reduceLeDiff, Nat.reduceLT, Nat.reduceBEq, Nat.reduceBNe, reduceCtorEq]
        refine callF c32 rfl ?_
        simp only [wkA, Nat.reduceEqDiff, Nat.reduceAdd, Nat.reduceSub, Nat.reduceLeDiff, Nat.reduceLT, Nat.reduceBEq, Nat.reduceBNe, reduceCtorEq, Bool.not_false]
      | true =>
        rw [h2] at c32
        rw [if_neg (by simp)]
        obtain ⟨hs, hl, he1, he2⟩ := goodD_ok h2
        have c33 := con33 (neg := neg) hs
        cases h3 : rngd (dv s) e with
        | false =>
          rw [h3] at c33
          rw [if_pos rfl]
          simp only [Rs.av, zD, Pat.av, items, D, ic19, wkA, Nat.reduceEqDiff, Nat.reduceAdd, Nat.reduceSub, Nat.reduceLeDiff, Nat.reduceLT, Nat.reduceBEq, Nat.reduceBNe, reduceCtorEq, e1, e2] at c32 c33 ⊢
          simp only [ic19_5, wkA, Nat.reduceEqDiff, Nat.reduceAdd, Nat.reduceSub, Nat.reduceLeDiff, Nat.reduceLT, Nat.reduceBEq, Nat.reduceBNe, reduceCtorEq]
          refine callF c32 rfl ?_
          simp only [wkA, Nat.reduceEqDiff, Nat.reduceAdd, Nat.reduceSub, Nat.reduceLeDiff, Nat.reduceLT, Nat.reduceBEq, Nat.reduceBNe, reduceCtorEq, Bool.not_true]
          simp only [ic19_4, wkA, Nat.reduceEqDiff, Nat.reduceAdd, Nat.reduceSub, Nat.reduceLeDiff, Nat.reduceLT, Nat.reduceBEq, Nat.reduceBNe, reduceCtorEq]
          refine callF c33 rfl ?_
          simp only [wkA, Nat.reduceEqDiff, Nat.reduceAdd, Nat.reduceSub, Nat.reduceLeDiff, Nat.reduceLT, Nat.reduceBEq, Nat.reduceBNe, reduceCtorEq, Bool.not_false]
        | true =>
          rw [h3] at c33
          rw [if_neg (by simp)]
          have hm := Pat.mult_le p
          have hr := nd_dv hs.1
          have c22 := con22 (neg := neg) (n := (p.mult : Int)) hs ⟨hs.1, hs.2.1, hs.2.2.1, by omega, by omega⟩ (by omega)
          have hz := tz_le (dv s)
          have hn : nd (core (dv s)) ≤ nd (dv s) := by
            by_cases h0 : dv s = 0
            · rw [h0, core_zero]; omega
            · rw [nd_core h0]; omega
          have hne : -1100 < ne (dv s) (e + p.mult) ∧ ne (dv s) (e + p.mult) < 2200 := by unfold ne; split <;> omega
          have hN := okN (c := dv s) (e := e + p.mult) (by omega) (by omega)
          have c47 := con47 h (m := m) (neg := neg) hN hg8 (by omega) (by have := text_len (core (dv s)); omega)
          rw [dv_text] at c47
          have w0 : IntKind.i64.wrap (0 - (p.mult : Int)) = -(p.mult : Int) := by rw [wrap64] <;> omega
          unfold N at c22
          cases hR : rdS p m neg (core (dv s)) (ne (dv s) (e + p.mult)) with
          | err k =>
            have hk := rdS_err hR
            rw [hR] at c47
            have hk2 : (k != 0) = true := by rw [bne_iff_ne]; omega
            change VC e0 ic19 (retQ _ (Rs.err k).av) _
            generalize text (core (dv s)) = s1 at *
            generalize ne (dv s) (e + p.mult) = x1 at *
            simp only [Rs.av, zD, Pat.av, items, D, ic19, wkA, Nat.reduceEqDiff, Nat.reduceAdd, Nat.reduceSub, Nat.reduceLeDiff, Nat.reduceLT, Nat.reduceBEq, Nat.reduceBNe, reduceCtorEq, e1, e2] at c32 c33 c22 c23 c47 ⊢
            simp only [ic19_5, wkA, Nat.reduceEqDiff, Nat.reduceAdd, Nat.reduceSub, Nat.reduceLeDiff, Nat.reduceLT, Nat.reduceBEq, Nat.reduceBNe, reduceCtorEq]
            refine callF c32 rfl ?_
            simp only [wkA, Nat.reduceEqDiff, Nat.reduceAdd, Nat.reduceSub, Nat.reduceLeDiff, Nat.reduceLT, Nat.reduceBEq, Nat.reduceBNe, reduceCtorEq, Bool.not_true]
            simp only [ic19_4, wkA, Nat.reduceEqDiff, Nat.reduceAdd, Nat.reduceSub, Nat.reduceLeDiff, Nat.reduceLT, Nat.reduceBEq, Nat.reduceBNe, reduceCtorEq]
            refine callF c33 rfl ?_
            simp only [wkA, Nat.reduceEqDiff, Nat.reduceAdd, Nat.reduceSub, Nat.reduceLeDiff, Nat.reduceLT, Nat.reduceBEq, Nat.reduceBNe, reduceCtorEq, Bool.not_true]
            simp only [ic19_3, wkA, Nat.reduceEqDiff, Nat.reduceAdd, Nat.reduceSub, Nat.reduceLeDiff, Nat.reduceLT, Nat.reduceBEq, Nat.reduceBNe, reduceCtorEq]
            refine callF c23 rfl ?_
            simp only [wkA, Nat.reduceEqDiff, Nat.reduceAdd, Nat.reduceSub, Nat.reduceLeDiff, Nat.reduceLT, Nat.reduceBEq, Nat.reduceBNe, reduceCtorEq]
            refine callFD c22 rfl ?_
            simp only [wkA, Nat.reduceEqDiff, Nat.reduceAdd, Nat.reduceSub, Nat.reduceLeDiff, Nat.reduceLT, Nat.reduceBEq, Nat.reduceBNe, reduceCtorEq]
            refine callFD c47 rfl ?_
            simp only [wkA, Nat.reduceEqDiff, Nat.reduceAdd, Nat.reduceSub, Nat.reduceLeDiff, Nat.reduceLT, Nat.reduceBEq, Nat.reduceBNe, reduceCtorEq, hk2]
          | ok n q E =>
            obtain ⟨rfl, hq, hE1, hE2⟩ := rdS_ok h (by omega) (by omega) hR
            rw [hR] at c47
            change VC e0 ic19 (retQ _ (if rngd q (E - p.mult) = true then Rs.ok n q (E - p.mult) else Rs.err 10).av) _
            have hq2 := okN (c := q) (e := E) (by omega) (by omega)
            have hlen := text_len (core q)
            have hnq : nd (core q) ≤ nd q := by
              by_cases h0 : q = 0
              · rw [h0, core_zero]; omega
              · rw [nd_core h0]; omega
            have c22b := con22 (neg := n) (n := -(p.mult : Int)) hq2 ⟨hq2.1, hq2.2.1, hq2.2.2.1, by have := tz_le q; unfold ne; split <;> omega, by have := tz_le q; unfold ne; split <;> omega⟩ (by omega)
            rw [dv_text, N_core] at c22b
            have hq3 := okN (c := q) (e := E - p.mult) (by omega) (by omega)
            have c33b := con33 (neg := n) hq3
            rw [dv_text] at c33b
            have hrc := rngd_core q (E - p.mult) 0
            rw [Int.add_zero, Int.add_zero] at hrc
            rw [hrc] at c33b
            rw [show E + -(p.mult : Int) = E - p.mult by omega] at c22b
            have h00 : ((0 : Int) != 0) = false := rfl
            unfold N at c22b
            change Fn 47 _ (.tup [D n (text (core q)) (ne q E), i64 0]) at c47
            cases h5 : rngd q (E - p.mult) with
            | false =>
              rw [h5] at c33b
              rw [if_neg (by simp)]
              generalize text (core (dv s)) = s1 at *
              generalize ne (dv s) (e + p.mult) = x1 at *
              generalize text (core q) = s2 at *
              generalize ne q E = x2 at *
              generalize ne q (E - p.mult) = x3 at *
              simp only [Rs.av, zD, Pat.av, items, D, ic19, wkA, Nat.reduceEqDiff, Nat.reduceAdd, Nat.reduceSub, Nat.reduceLeDiff, Nat.reduceLT, Nat.reduceBEq, Nat.reduceBNe, reduceCtorEq, e1, e2] at c32 c33 c22 c23 c47 c22b c33b ⊢
              simp only [ic19_5, wkA, Nat.reduceEqDiff, Nat.reduceAdd, Nat.reduceSub, Nat.reduceLeDiff, Nat.reduceLT, Nat.reduceBEq, Nat.reduceBNe, reduceCtorEq]
              refine callF c32 rfl ?_
              simp only [wkA, Nat.reduceEqDiff, Nat.reduceAdd, Nat.reduceSub, Nat.reduceLeDiff, Nat.reduceLT, Nat.reduceBEq, Nat.reduceBNe, reduceCtorEq, Bool.not_true]
              simp only [ic19_4, wkA, Nat.reduceEqDiff, Nat.reduceAdd, Nat.reduceSub, Nat.reduceLeDiff, Nat.reduceLT, Nat.reduceBEq, Nat.reduceBNe, reduceCtorEq]
              refine callF c33 rfl ?_
              simp only [wkA, Nat.reduceEqDiff, Nat.reduceAdd, Nat.reduceSub, Nat.reduceLeDiff, Nat.reduceLT, Nat.reduceBEq, Nat.reduceBNe, reduceCtorEq, Bool.not_true]
              simp only [ic19_3, wkA, Nat.reduceEqDiff, Nat.reduceAdd, Nat.reduceSub, Nat.reduceLeDiff, Nat.reduceLT, Nat.reduceBEq, Nat.reduceBNe, reduceCtorEq]
              refine callF c23 rfl ?_
              simp only [wkA, Nat.reduceEqDiff, Nat.reduceAdd, Nat.reduceSub, Nat.reduceLeDiff, Nat.reduceLT, Nat.reduceBEq, Nat.reduceBNe, reduceCtorEq]
              refine callFD c22 rfl ?_
              simp only [wkA, Nat.reduceEqDiff, Nat.reduceAdd, Nat.reduceSub, Nat.reduceLeDiff, Nat.reduceLT, Nat.reduceBEq, Nat.reduceBNe, reduceCtorEq]
              refine callFD c47 rfl ?_
              simp only [wkA, Nat.reduceEqDiff, Nat.reduceAdd, Nat.reduceSub, Nat.reduceLeDiff, Nat.reduceLT, Nat.reduceBEq, Nat.reduceBNe, reduceCtorEq, h00]
              simp only [ic19_2, wkA, Nat.reduceEqDiff, Nat.reduceAdd, Nat.reduceSub, Nat.reduceLeDiff, Nat.reduceLT, Nat.reduceBEq, Nat.reduceBNe, reduceCtorEq, w0]
              refine callF c22b rfl ?_
              simp only [wkA, Nat.reduceEqDiff, Nat.reduceAdd, Nat.reduceSub, Nat.reduceLeDiff, Nat.reduceLT, Nat.reduceBEq, Nat.reduceBNe, reduceCtorEq]
              refine callF c33b rfl ?_
              simp only [wkA, Nat.reduceEqDiff, Nat.reduceAdd, Nat.reduceSub, Nat.reduceLeDiff, Nat.reduceLT, Nat.reduceBEq, Nat.reduceBNe, reduceCtorEq, Bool.not_false]
            | true =>
              rw [h5] at c33b
              rw [if_pos rfl]
              change VC e0 ic19 (retQ _ (.tup [D n (text (core q)) (ne q (E - p.mult)), i64 0])) _
              generalize text (core (dv s)) = s1 at *
              generalize ne (dv s) (e + p.mult) = x1 at *
              generalize text (core q) = s2 at *
              generalize ne q E = x2 at *
              generalize ne q (E - p.mult) = x3 at *
              simp only [Rs.av, zD, Pat.av, items, D, ic19, wkA, Nat.reduceEqDiff, Nat.reduceAdd, Nat.reduceSub, Nat.reduceLeDiff, Nat.reduceLT, Nat.reduceBEq, Nat.reduceBNe, reduceCtorEq, e1, e2] at c32 c33 c22 c23 c47 c22b c33b ⊢
              simp only [ic19_5, wkA, Nat.reduceEqDiff, Nat.reduceAdd, Nat.reduceSub, Nat.reduceLeDiff, Nat.reduceLT, Nat.reduceBEq, Nat.reduceBNe, reduceCtorEq]
              refine callF c32 rfl ?_
              simp only [wkA, Nat.reduceEqDiff, Nat.reduceAdd, Nat.reduceSub, Nat.reduceLeDiff, Nat.reduceLT, Nat.reduceBEq, Nat.reduceBNe, reduceCtorEq, Bool.not_true]
              simp only [ic19_4, wkA, Nat.reduceEqDiff, Nat.reduceAdd, Nat.reduceSub, Nat.reduceLeDiff, Nat.reduceLT, Nat.reduceBEq, Nat.reduceBNe, reduceCtorEq]
              refine callF c33 rfl ?_
              simp only [wkA, Nat.reduceEqDiff, Nat.reduceAdd, Nat.reduceSub, Nat.reduceLeDiff, Nat.reduceLT, Nat.reduceBEq, Nat.reduceBNe, reduceCtorEq, Bool.not_true]
              simp only [ic19_3, wkA, Nat.reduceEqDiff, Nat.reduceAdd, Nat.reduceSub, Nat.reduceLeDiff, Nat.reduceLT, Nat.reduceBEq, Nat.reduceBNe, reduceCtorEq]
              refine callF c23 rfl ?_
              simp only [wkA, Nat.reduceEqDiff, Nat.reduceAdd, Nat.reduceSub, Nat.reduceLeDiff, Nat.reduceLT, Nat.reduceBEq, Nat.reduceBNe, reduceCtorEq]
              refine callFD c22 rfl ?_
              simp only [wkA, Nat.reduceEqDiff, Nat.reduceAdd, Nat.reduceSub, Nat.reduceLeDiff, Nat.reduceLT, Nat.reduceBEq, Nat.reduceBNe, reduceCtorEq]
              refine callFD c47 rfl ?_
              simp only [wkA, Nat.reduceEqDiff, Nat.reduceAdd, Nat.reduceSub, Nat.reduceLeDiff, Nat.reduceLT, Nat.reduceBEq, Nat.reduceBNe, reduceCtorEq, h00]
              simp only [ic19_2, wkA, Nat.reduceEqDiff, Nat.reduceAdd, Nat.reduceSub, Nat.reduceLeDiff, Nat.reduceLT, Nat.reduceBEq, Nat.reduceBNe, reduceCtorEq, w0]
              refine callF c22b rfl ?_
              simp only [wkA, Nat.reduceEqDiff, Nat.reduceAdd, Nat.reduceSub, Nat.reduceLeDiff, Nat.reduceLT, Nat.reduceBEq, Nat.reduceBNe, reduceCtorEq]
              refine callF c33b rfl ?_
              simp only [wkA, Nat.reduceEqDiff, Nat.reduceAdd, Nat.reduceSub, Nat.reduceLeDiff, Nat.reduceLT, Nat.reduceBEq, Nat.reduceBNe, reduceCtorEq, Bool.not_true]
              simp only [ic19_1, wkA, Nat.reduceEqDiff, Nat.reduceAdd, Nat.reduceSub, Nat.reduceLeDiff, Nat.reduceLT, Nat.reduceBEq, Nat.reduceBNe, reduceCtorEq]
theorem con6 (s : List UInt8) (m : Int) (d : Dm) (hs : s.length < 1099511627776) (hd : d.s.length < 1099511627776) : Fn 6 [.str s, i64 m, d.av] (.bool true) := by
  have c17 := con17 (d := d) hs hd
  have c18 := con18
  have hp := cmpP_ok s
  generalize (patG s && Dm.in19 d) = g at c17
  generalize cmpP s = p at *
  have c15 := con15 hp.ok (m := m) (neg := d.neg) (s := d.s) (e := d.e)
  have c19 := con19 hp.ok (m := m) (neg := d.neg) (s := d.s) (e := d.e) hd
  refine e6 (by simp) ?_
  simp only [Pat.av, items, Dm.av, D] at c17 c15 c19
  simp only [ic6, D, Dm.av, wkA, Nat.reduceEqDiff, Nat.reduceAdd, Nat.reduceSub, Nat.reduceLeDiff, Nat.reduceLT, Nat.reduceBEq, Nat.reduceBNe, reduceCtorEq]
  refine callF c17 rfl ?_
  cases g with
  | false =>
    simp only [wkA, Nat.reduceEqDiff, Nat.reduceAdd, Nat.reduceSub, Nat.reduceLeDiff, Nat.reduceLT, Nat.reduceBEq, Nat.reduceBNe, reduceCtorEq, Bool.not_false]
    refine callF c18 rfl ?_
    simp only [wkA, Nat.reduceEqDiff, Nat.reduceAdd, Nat.reduceSub, Nat.reduceLeDiff, Nat.reduceLT, Nat.reduceBEq, Nat.reduceBNe, reduceCtorEq]
  | true =>
    simp only [wkA, Nat.reduceEqDiff, Nat.reduceAdd, Nat.reduceSub, Nat.reduceLeDiff, Nat.reduceLT, Nat.reduceBEq, Nat.reduceBNe, reduceCtorEq, Bool.not_true]
    simp only [ic6_1, wkA, Nat.reduceEqDiff, Nat.reduceAdd, Nat.reduceSub, Nat.reduceLeDiff, Nat.reduceLT, Nat.reduceBEq, Nat.reduceBNe, reduceCtorEq]
    cases hx : shS p m d.neg d.s d.e with
    | err k =>
      have ek : (k == k) = true := beq_self_eq_true k
      rw [hx] at c15 c19
      simp only [Rs.av, zD, D] at c15 c19
      refine callF c15 rfl ?_
      simp only [wkA, Nat.reduceEqDiff, Nat.reduceAdd, Nat.reduceSub, Nat.reduceLeDiff, Nat.reduceLT, Nat.reduceBEq, Nat.reduceBNe, reduceCtorEq]
      refine callF c19 rfl ?_
      simp only [wkA, Nat.reduceEqDiff, Nat.reduceAdd, Nat.reduceSub, Nat.reduceLeDiff, Nat.reduceLT, Nat.reduceBEq, Nat.reduceBNe, reduceCtorEq]
      refine callF c18 rfl ?_
      simp only [wkA, Nat.reduceEqDiff, Nat.reduceAdd, Nat.reduceSub, Nat.reduceLeDiff, Nat.reduceLT, Nat.reduceBEq, Nat.reduceBNe, reduceCtorEq, binV, eqD, ckind, ek]
    | ok n q E =>
      rw [hx] at c15 c19
      simp only [Rs.av, N, D] at c15 c19
      have z1 : ((0 : Int) == 0) = true := rfl
      refine callF c15 rfl ?_
      simp only [wkA, Nat.reduceEqDiff, Nat.reduceAdd, Nat.reduceSub, Nat.reduceLeDiff, Nat.reduceLT, Nat.reduceBEq, Nat.reduceBNe, reduceCtorEq]
      refine callF c19 rfl ?_
      simp only [wkA, Nat.reduceEqDiff, Nat.reduceAdd, Nat.reduceSub, Nat.reduceLeDiff, Nat.reduceLT, Nat.reduceBEq, Nat.reduceBNe, reduceCtorEq]
      refine callF c18 rfl ?_
      simp only [wkA, Nat.reduceEqDiff, Nat.reduceAdd, Nat.reduceSub, Nat.reduceLeDiff, Nat.reduceLT, Nat.reduceBEq, Nat.reduceBNe, reduceCtorEq, binV, z1, eqD, ckind]
theorem con84 {neg : Bool} {s : List UInt8} {e p : Int} (h : okD s e) (hp : -1000000 < p ∧ p < 1000000) : Fn 84 [D neg s e, i64 p] (.str [UInt8.ofNat (48 + digAt s e p)]) := by
  obtain ⟨h1, _, h3, he1, he2⟩ := h
  have w1 : IntKind.i64.wrap (p - e) = p - e := by rw [wrap64] <;> omega
  refine e84 (by simp) ?_
  by_cases hn : p - e < 0
  · have e1 : decide (p - e < 0) = true := decide_eq_true hn
    have hd : digAt s e p = 0 := by unfold digAt; rw [if_pos (.inl (by omega))]
    rw [hd]
    simp only [D, ic84, wkA, Nat.reduceEqDiff, Nat.reduceAdd, Nat.reduceSub, Nat.reduceLeDiff, Nat.reduceLT, Nat.reduceBEq, Nat.reduceBNe, reduceCtorEq, w1, e1]
    rfl
  · have e1 : decide (p - e < 0) = false := decide_eq_false hn
    by_cases hl : p - e ≥ (s.length : Int)
    · have e2 : decide (p - e ≥ (s.length : Int)) = true := decide_eq_true hl
      have hd : digAt s e p = 0 := by unfold digAt; rw [if_pos (.inr (by omega))]
      rw [hd]
      simp only [D, ic84, wkA, Nat.reduceEqDiff, Nat.reduceAdd, Nat.reduceSub, Nat.reduceLeDiff, Nat.reduceLT, Nat.reduceBEq, Nat.reduceBNe, reduceCtorEq, w1, e1, e2]
      rfl
    · have e2 : decide (p - e ≥ (s.length : Int)) = false := decide_eq_false hl
      have w2 : IntKind.i64.wrap ((s.length : Int) - 1) = (s.length : Int) - 1 := by rw [wrap64] <;> omega
      have w3 : IntKind.i64.wrap ((s.length : Int) - 1 - (p - e)) = ((s.length - 1 - (p - e).toNat : Nat) : Int) := by rw [wrap64] <;> omega
      have w4 : IntKind.i64.wrap (((s.length - 1 - (p - e).toNat : Nat) : Int) + 1) = ((s.length - 1 - (p - e).toNat + 1 : Nat) : Int) := by rw [wrap64] <;> omega
      have hi : s.length - 1 - (p - e).toNat < s.length := by omega
      have hc := isDg_iff.1 (dgs_get h1 hi)
      have hd : digAt s e p = (s.getD (s.length - 1 - (p - e).toNat) 0).toNat - 48 := by unfold digAt; rw [if_neg (by omega)]
      have hs1 : (s.drop (s.length - 1 - (p - e).toNat)).take (s.length - 1 - (p - e).toNat + 1 - (s.length - 1 - (p - e).toNat)) = [UInt8.ofNat (48 + digAt s e p)] := by
        rw [hd, show 48 + ((s.getD (s.length - 1 - (p - e).toNat) 0).toNat - 48) = (s.getD (s.length - 1 - (p - e).toNat) 0).toNat by omega, UInt8.ofNat_toNat]
        rw [show s.length - 1 - (p - e).toNat + 1 - (s.length - 1 - (p - e).toNat) = 1 by omega, List.drop_eq_getElem_cons hi, List.getD_eq_getElem?_getD, List.getElem?_eq_getElem hi]
        rfl
      generalize s.length - 1 - (p - e).toNat = n at *
      simp only [D, ic84, wkA, Nat.reduceEqDiff, Nat.reduceAdd, Nat.reduceSub, Nat.reduceLeDiff, Nat.reduceLT, Nat.reduceBEq, Nat.reduceBNe, reduceCtorEq, w1, e1, e2]
      simp only [ic84_1, wkA, Nat.reduceEqDiff, Nat.reduceAdd, Nat.reduceSub, Nat.reduceLeDiff, Nat.reduceLT, Nat.reduceBEq, Nat.reduceBNe, reduceCtorEq, w2, w3, w4, Int.toNat_natCast, hs1]
      exact ⟨by omega, by omega, by omega⟩
def I52 (neg : Bool) (s : List UInt8) (e f : Int) (n m : Nat) (st : St) : Prop := ∃ k, m = n - k ∧ k ≤ n ∧
  st = ⟨[(2, i64 (f - n + 1)), (3, .box 3 0), (7, .str (spanN s e f k)), (8, i64 (f - k))], [(3, .box 23 [.bool neg, .str s, i64 e])]⟩
theorem con52 {neg : Bool} {s : List UInt8} {e f : Int} {n : Nat} (h : okD s e) (hn : n < 100000) (hf : -100000 < f ∧ f < 100000) : Fn 52 [D neg s e, i64 f, i64 (f - n + 1)] (.str (spanN s e f n)) := by
  refine e52 (by simp) ?_
  simp only [D, ic52, wkA, Nat.reduceEqDiff, Nat.reduceAdd, Nat.reduceSub, Nat.reduceLeDiff, Nat.reduceLT, Nat.reduceBEq, Nat.reduceBNe, reduceCtorEq]
  refine ⟨I52 neg s e f n, n, _, Gh.refl _, ⟨0, by omega, by omega, by simp [spanN]⟩, ?_⟩
  rintro m st ⟨k, rfl, hk, rfl⟩
  by_cases hlt : k < n
  · have e1 : decide (f - (k : Int) ≥ f - n + 1) = true := decide_eq_true (by omega)
    have w1 : IntKind.i64.wrap (f - (k : Int) - 1) = f - ((k + 1 : Nat) : Int) := by rw [wrap64] <;> omega
    have c84 := con84 (neg := neg) (p := f - k) h (by omega)
    simp only [D] at c84
    simp only [ic52_2, wkA, Nat.reduceEqDiff, Nat.reduceAdd, Nat.reduceSub, Nat.reduceLeDiff, Nat.reduceLT, Nat.reduceBEq, Nat.reduceBNe, reduceCtorEq, e1]
    simp only [ic52_1, wkA, Nat.reduceEqDiff, Nat.reduceAdd, Nat.reduceSub, Nat.reduceLeDiff, Nat.reduceLT, Nat.reduceBEq, Nat.reduceBNe, reduceCtorEq]
    refine callF c84 rfl ?_
    simp only [wkA, Nat.reduceEqDiff, Nat.reduceAdd, Nat.reduceSub, Nat.reduceLeDiff, Nat.reduceLT, Nat.reduceBEq, Nat.reduceBNe, reduceCtorEq, w1, spanN_len]
    refine ⟨by omega, _, n - (k + 1), Gh.refl _, by omega, k + 1, rfl, by omega, ?_⟩
    rw [spanN_succ]
  · have e1 : decide (f - (k : Int) ≥ f - n + 1) = false := decide_eq_false (by omega)
    have hkn : k = n := by omega
    subst hkn
    simp only [ic52_2, wkA, Nat.reduceEqDiff, Nat.reduceAdd, Nat.reduceSub, Nat.reduceLeDiff, Nat.reduceLT, Nat.reduceBEq, Nat.reduceBNe, reduceCtorEq, e1]
    simp only [ic52_3, wkA, Nat.reduceEqDiff, Nat.reduceAdd, Nat.reduceSub, Nat.reduceLeDiff, Nat.reduceLT, Nat.reduceBEq, Nat.reduceBNe, reduceCtorEq]
theorem con52' {neg : Bool} {s : List UInt8} {e f t : Int} (h : okD s e) (hf : -90000 < f ∧ f < 90000) (ht : -90000 < t ∧ t < 90000) (hd : f - t < 90000) : Fn 52 [D neg s e, i64 f, i64 t] (.str (spanN s e f (f - t + 1).toNat)) := by
  by_cases hn : 0 ≤ f - t + 1
  · have := con52 (neg := neg) (f := f) (n := (f - t + 1).toNat) h (by omega) (by omega)
    rwa [show f - ((f - t + 1).toNat : Int) + 1 = t by omega] at this
  · rw [show (f - t + 1).toNat = 0 by omega, show spanN s e f 0 = [] from rfl]
    have e1 : decide (f ≥ t) = false := decide_eq_false (by omega)
    refine e52 (by simp) ?_
    simp only [D, ic52, wkA, Nat.reduceEqDiff, Nat.reduceAdd, Nat.reduceSub, Nat.reduceLeDiff, Nat.reduceLT, Nat.reduceBEq, Nat.reduceBNe, reduceCtorEq]
    refine ⟨fun _ st => st = ⟨[(2, i64 t), (3, .box 3 0), (7, .str []), (8, i64 f)], [(3, .box 23 [.bool neg, .str s, i64 e])]⟩, 0, _, Gh.refl _, rfl, ?_⟩
    rintro n st rfl
    simp only [ic52_2, wkA, Nat.reduceEqDiff, Nat.reduceAdd, Nat.reduceSub, Nat.reduceLeDiff, Nat.reduceLT, Nat.reduceBEq, Nat.reduceBNe, reduceCtorEq, e1]
    simp only [ic52_3, wkA, Nat.reduceEqDiff, Nat.reduceAdd, Nat.reduceSub, Nat.reduceLeDiff, Nat.reduceLT, Nat.reduceBEq, Nat.reduceBNe, reduceCtorEq]
def n9 (n k : Int) : Int := if n + k = 0 then 1 else n
def n10 (z : Bool) (t n : Int) : Int := if 0 ≤ t ∧ z = false ∧ n < t + 1 then t + 1 else n
def k11 (k : Int) : Int := if k < 0 then 0 else k
def k12 (z : Bool) (e k : Int) : Int := if k < -e ∧ z = false then -e else k
section
variable {neg z : Bool} {s : List UInt8} {e tp k n : Int} {t : List (Nat × AV)} {o : List (Nat × Ob)}
theorem s8 (hs : okD s e) (hk : 0 ≤ k ∧ k < 40000) (hn : 0 ≤ n ∧ n < 40000)
    (h3 : look t 3 = some (.box 3 0)) (h4 : look t 4 = some (.box 4 0)) (h7 : look t 7 = some (.box 7 0)) (h13 : look t 13 = some (i64 k)) (h14 : look t 14 = some (i64 n))
    (o3 : look o 3 = some (.box 23 [.bool neg, .str s, i64 e])) (o4 : look o 4 = some (.box 39 [.bool false, .str [], .str [], i64 0])) (o7 : look o 7 = some (.box 39 [.bool neg, .str [], .str [], i64 0])) :
    VC e0 ic21_8 (retQ [(4, (some (some 4)))] (shA neg (spanN s e (n - 1) n.toNat) (spanN s e (-1) k.toNat) 0)) ⟨t, o⟩ := by
  have c1 := con52' (neg := neg) (f := n - 1) (t := 0) hs (by omega) (by omega) (by omega)
  have c2 := con52' (neg := neg) (f := -1) (t := -k) hs (by omega) (by omega) (by omega)
  rw [show n - 1 - 0 + 1 = n by omega] at c1
  rw [show -1 - -k + 1 = k by omega] at c2
  have w1 : IntKind.i64.wrap (n - 1) = n - 1 := by rw [wrap64] <;> omega
  have w2 : IntKind.i64.wrap (0 - k) = -k := by rw [wrap64] <;> omega
  generalize spanN s e (n - 1) n.toNat = a at *
  generalize spanN s e (-1) k.toNat = b at *
  simp only [D] at c1 c2
  simp only [ic21_8, wkA, Nat.reduceEqDiff, Nat.reduceAdd, Nat.reduceSub, Nat.reduceLeDiff, Nat.reduceLT, Nat.reduceBEq, Nat.reduceBNe, reduceCtorEq, h3, h4, h7, h13, h14, o3, o4, o7, w1]
  refine callFD c1 rfl ?_
  simp only [wkA, Nat.reduceEqDiff, Nat.reduceAdd, Nat.reduceSub, Nat.reduceLeDiff, Nat.reduceLT, Nat.reduceBEq, Nat.reduceBNe, reduceCtorEq, h3, h4, h7, h13, h14, o3, o4, o7, w2]
  refine callFD c2 rfl ?_
  simp only [wkA, Nat.reduceEqDiff, Nat.reduceAdd, Nat.reduceSub, Nat.reduceLeDiff, Nat.reduceLT, Nat.reduceBEq, Nat.reduceBNe, reduceCtorEq, h3, h4, h7, h13, h14, o3, o4, o7, shA]
theorem s9 (hs : okD s e) (hk : 0 ≤ k ∧ k < 40000) (hn : 0 ≤ n ∧ n < 40000)
    (h3 : look t 3 = some (.box 3 0)) (h4 : look t 4 = some (.box 4 0)) (h7 : look t 7 = some (.box 7 0)) (h13 : look t 13 = some (i64 k)) (h14 : look t 14 = some (i64 n))
    (o3 : look o 3 = some (.box 23 [.bool neg, .str s, i64 e])) (o4 : look o 4 = some (.box 39 [.bool false, .str [], .str [], i64 0])) (o7 : look o 7 = some (.box 39 [.bool neg, .str [], .str [], i64 0])) :
    VC e0 ic21_9 (retQ [(4, (some (some 4)))] (shA neg (spanN s e (n9 n k - 1) (n9 n k).toNat) (spanN s e (-1) k.toNat) 0)) ⟨t, o⟩ := by
  have w1 : IntKind.i64.wrap (n + k) = n + k := by rw [wrap64] <;> omega
  unfold n9
  by_cases hz : n + k = 0
  · have e1 : ((n + k) == 0) = true := by simp [hz]
    rw [if_pos hz]
    simp only [ic21_9, wkA, Nat.reduceEqDiff, Nat.reduceAdd, Nat.reduceSub, Nat.reduceLeDiff, Nat.reduceLT, Nat.reduceBEq, Nat.reduceBNe, reduceCtorEq, h3, h4, h7, h13, h14, o3, o4, o7, w1, e1]
    exact s8 hs hk (by omega) rfl rfl rfl rfl rfl rfl rfl rfl
  · have e1 : ((n + k) == 0) = false := by simp [hz]
    rw [if_neg hz]
    simp only [ic21_9, wkA, Nat.reduceEqDiff, Nat.reduceAdd, Nat.reduceSub, Nat.reduceLeDiff, Nat.reduceLT, Nat.reduceBEq, Nat.reduceBNe, reduceCtorEq, h3, h4, h7, h13, h14, o3, o4, o7, w1, e1]
    exact s8 hs hk hn rfl rfl rfl rfl rfl rfl rfl rfl
theorem s10 (hs : okD s e) (hk : 0 ≤ k ∧ k < 40000) (hn : 0 ≤ n ∧ n < 20000) (ht : -30000 < tp ∧ tp < 30000)
    (h3 : look t 3 = some (.box 3 0)) (h4 : look t 4 = some (.box 4 0)) (h5 : look t 5 = some (i64 tp)) (h6 : look t 6 = some (.bool z)) (h7 : look t 7 = some (.box 7 0)) (h13 : look t 13 = some (i64 k)) (h14 : look t 14 = some (i64 n))
    (o3 : look o 3 = some (.box 23 [.bool neg, .str s, i64 e])) (o4 : look o 4 = some (.box 39 [.bool false, .str [], .str [], i64 0])) (o7 : look o 7 = some (.box 39 [.bool neg, .str [], .str [], i64 0])) :
    VC e0 ic21_10 (retQ [(4, (some (some 4)))] (shA neg (spanN s e (n9 (n10 z tp n) k - 1) (n9 (n10 z tp n) k).toNat) (spanN s e (-1) k.toNat) 0)) ⟨t, o⟩ := by
  have w1 : IntKind.i64.wrap (tp + 1) = tp + 1 := by rw [wrap64] <;> omega
  unfold n10
  by_cases h1 : 0 ≤ tp
  · have e1 : decide (tp ≥ 0) = true := decide_eq_true h1
    cases z with
    | true =>
      rw [if_neg (by simp)]
      simp only [ic21_10, wkA, Nat.reduceEqDiff, Nat.reduceAdd, Nat.reduceSub, Nat.reduceLeDiff, Nat.reduceLT, Nat.reduceBEq, Nat.reduceBNe, reduceCtorEq, h3, h4, h5, h6, h7, h13, h14, o3, o4, o7, w1, e1, Bool.not_true]
      exact s9 hs hk (by omega) rfl rfl rfl rfl rfl rfl rfl rfl
    | false =>
      by_cases h2 : n < tp + 1
      · have e2 : decide (tp + 1 > n) = true := decide_eq_true h2
        rw [if_pos ⟨h1, rfl, h2⟩]
        simp only [ic21_10, wkA, Nat.reduceEqDiff, Nat.reduceAdd, Nat.reduceSub, Nat.reduceLeDiff, Nat.reduceLT, Nat.reduceBEq, Nat.reduceBNe, reduceCtorEq, h3, h4, h5, h6, h7, h13, h14, o3, o4, o7, w1, e1, e2, Bool.not_false]
        exact s9 hs hk (by omega) rfl rfl rfl rfl rfl rfl rfl rfl
      · have e2 : decide (tp + 1 > n) = false := decide_eq_false h2
        rw [if_neg (by omega)]
        simp only [ic21_10, wkA, Nat.reduceEqDiff, Nat.reduceAdd, Nat.reduceSub, Nat.reduceLeDiff, Nat.reduceLT, Nat.reduceBEq, Nat.reduceBNe, reduceCtorEq, h3, h4, h5, h6, h7, h13, h14, o3, o4, o7, w1, e1, e2, Bool.not_false]
        exact s9 hs hk (by omega) rfl rfl rfl rfl rfl rfl rfl rfl
  · have e1 : decide (tp ≥ 0) = false := decide_eq_false h1
    rw [if_neg (by omega)]
    simp only [ic21_10, wkA, Nat.reduceEqDiff, Nat.reduceAdd, Nat.reduceSub, Nat.reduceLeDiff, Nat.reduceLT, Nat.reduceBEq, Nat.reduceBNe, reduceCtorEq, h3, h4, h5, h6, h7, h13, h14, o3, o4, o7, w1, e1]
    exact s9 hs hk (by omega) rfl rfl rfl rfl rfl rfl rfl rfl
theorem s11 (hs : okD s e) (hk : -40000 < k ∧ k < 40000) (hn : 0 ≤ n ∧ n < 20000) (ht : -30000 < tp ∧ tp < 30000)
    (h3 : look t 3 = some (.box 3 0)) (h4 : look t 4 = some (.box 4 0)) (h5 : look t 5 = some (i64 tp)) (h6 : look t 6 = some (.bool z)) (h7 : look t 7 = some (.box 7 0)) (h13 : look t 13 = some (i64 k)) (h14 : look t 14 = some (i64 n))
    (o3 : look o 3 = some (.box 23 [.bool neg, .str s, i64 e])) (o4 : look o 4 = some (.box 39 [.bool false, .str [], .str [], i64 0])) (o7 : look o 7 = some (.box 39 [.bool neg, .str [], .str [], i64 0])) :
    VC e0 ic21_11 (retQ [(4, (some (some 4)))] (shA neg (spanN s e (n9 (n10 z tp n) (k11 k) - 1) (n9 (n10 z tp n) (k11 k)).toNat) (spanN s e (-1) (k11 k).toNat) 0)) ⟨t, o⟩ := by
  unfold k11
  by_cases h1 : k < 0
  · have e1 : decide (k < 0) = true := decide_eq_true h1
    rw [if_pos h1]
    simp only [ic21_11, wkA, Nat.reduceEqDiff, Nat.reduceAdd, Nat.reduceSub, Nat.reduceLeDiff, Nat.reduceLT, Nat.reduceBEq, Nat.reduceBNe, reduceCtorEq, h3, h4, h5, h6, h7, h13, h14, o3, o4, o7, e1]
    exact s10 hs (by omega) hn ht rfl rfl rfl rfl rfl rfl rfl rfl rfl rfl
  · have e1 : decide (k < 0) = false := decide_eq_false h1
    rw [if_neg h1]
    simp only [ic21_11, wkA, Nat.reduceEqDiff, Nat.reduceAdd, Nat.reduceSub, Nat.reduceLeDiff, Nat.reduceLT, Nat.reduceBEq, Nat.reduceBNe, reduceCtorEq, h3, h4, h5, h6, h7, h13, h14, o3, o4, o7, e1]
    exact s10 hs (by omega) hn ht rfl rfl rfl rfl rfl rfl rfl rfl rfl rfl
theorem s12 (hs : okD s e) (he : -30000 < e ∧ e < 30000) (hk : -40000 < k ∧ k < 40000) (hn : 0 ≤ n ∧ n < 20000) (ht : -30000 < tp ∧ tp < 30000)
    (h3 : look t 3 = some (.box 3 0)) (h4 : look t 4 = some (.box 4 0)) (h5 : look t 5 = some (i64 tp)) (h6 : look t 6 = some (.bool z)) (h7 : look t 7 = some (.box 7 0)) (h13 : look t 13 = some (i64 k)) (h14 : look t 14 = some (i64 n))
    (o3 : look o 3 = some (.box 23 [.bool neg, .str s, i64 e])) (o4 : look o 4 = some (.box 39 [.bool false, .str [], .str [], i64 0])) (o7 : look o 7 = some (.box 39 [.bool neg, .str [], .str [], i64 0])) :
    VC e0 ic21_12 (retQ [(4, (some (some 4)))] (shA neg (spanN s e (n9 (n10 z tp n) (k11 (k12 z e k)) - 1) (n9 (n10 z tp n) (k11 (k12 z e k))).toNat) (spanN s e (-1) (k11 (k12 z e k)).toNat) 0)) ⟨t, o⟩ := by
  have w1 : IntKind.i64.wrap (0 - e) = -e := by rw [wrap64] <;> omega
  unfold k12
  by_cases h1 : k < -e
  · have e1 : decide (-e > k) = true := decide_eq_true h1
    cases z with
    | true =>
      rw [if_neg (by simp)]
      simp only [ic21_12, wkA, Nat.reduceEqDiff, Nat.reduceAdd, Nat.reduceSub, Nat.reduceLeDiff, Nat.reduceLT, Nat.reduceBEq, Nat.reduceBNe, reduceCtorEq, h3, h4, h5, h6, h7, h13, h14, o3, o4, o7, w1, e1, Bool.not_true]
      exact s11 hs hk hn ht rfl rfl rfl rfl rfl rfl rfl rfl rfl rfl
    | false =>
      rw [if_pos ⟨h1, rfl⟩]
      simp only [ic21_12, wkA, Nat.reduceEqDiff, Nat.reduceAdd, Nat.reduceSub, Nat.reduceLeDiff, Nat.reduceLT, Nat.reduceBEq, Nat.reduceBNe, reduceCtorEq, h3, h4, h5, h6, h7, h13, h14, o3, o4, o7, w1, e1, Bool.not_false]
      exact s11 hs (by omega) hn ht rfl rfl rfl rfl rfl rfl rfl rfl rfl rfl
  · have e1 : decide (-e > k) = false := decide_eq_false h1
    rw [if_neg (by omega)]
    simp only [ic21_12, wkA, Nat.reduceEqDiff, Nat.reduceAdd, Nat.reduceSub, Nat.reduceLeDiff, Nat.reduceLT, Nat.reduceBEq, Nat.reduceBNe, reduceCtorEq, h3, h4, h5, h6, h7, h13, h14, o3, o4, o7, w1, e1]
    exact s11 hs hk hn ht rfl rfl rfl rfl rfl rfl rfl rfl rfl rfl
end
theorem plain_eq {p : Pat} {s : List UInt8} {e k n : Int} (hp : p.Ok) (hk : k = if 0 < p.minSig then (p.minSig : Int) - 1 - top (dv s) e else (p.minFrac : Int)) (hn : n = if 0 < p.minSig then 1 else (p.minInt : Int)) :
    k11 (k12 (decide (dv s = 0)) e k) = plainB p s e ∧ n10 (decide (dv s = 0)) (top (dv s) e) n = plainN p s e := by
  unfold plainB plainN
  rw [← hk, ← hn]
  have hn0 : 0 ≤ n := by rw [hn]; split <;> omega
  clear hk hn
  unfold k11 k12 n10 fineS imax
  by_cases h0 : dv s = 0
  · simp only [h0, decide_true, if_true, reduceCtorEq, Bool.true_eq_false, and_false, false_and, if_false]
    exact ⟨by first | rfl | trivial, by first | rfl | trivial⟩
  · simp only [h0, decide_false, if_false, and_true, true_and]
    constructor
    · split <;> split <;> split <;> omega
    · split <;> split <;> omega
theorem lay_plain {p : Pat} {s : List UInt8} {e : Int} {neg : Bool} (hp : p.Ok) (hz : (s == [48]) = decide (dv s = 0)) (hN : 0 ≤ plainN p s e) (hB : 0 ≤ plainB p s e) (hsci : p.sci = false) :
    shA neg (spanN s e (n9 (plainN p s e) (plainB p s e) - 1) (n9 (plainN p s e) (plainB p s e)).toNat) (spanN s e (-1) (plainB p s e).toNat) 0 = layA neg (rawL p s e) := by
  unfold layA rawL n9
  rw [if_neg (show ¬ p.sci = true by simp [hsci])]
  by_cases h : plainN p s e + plainB p s e = 0
  · have hN0 : plainN p s e = 0 := by omega
    have hB0 : plainB p s e = 0 := by omega
    dsimp only
    rw [if_pos h, hN0, hB0, if_pos (show spanN s e (0 - 1) (Int.toNat 0) ++ spanN s e (-1) (Int.toNat 0) = [] from rfl)]
    have hd : digAt s e 0 = 0 := by
      by_cases h0 : dv s = 0
      · rw [decide_eq_true h0, beq_iff_eq] at hz
        subst hz
        unfold digAt
        split
        · rfl
        · rename_i hh
          have : e = 0 := by simp at hh; omega
          subst this
          rfl
      · exfalso
        unfold plainN imax at hN0
        unfold plainB fineS imax at hB0
        rw [if_neg h0] at hN0 hB0
        have hnd := nd_ne h0
        unfold top at hN0 hB0
        rw [if_neg h0] at hN0 hB0
        split at hB0 <;> split at hB0 <;> split at hN0 <;> (try split at hN0) <;> (try split at hB0) <;> omega
    have : spanN s e (1 - 1) (1 : Int).toNat = [48] := by
      rw [show (1 : Int) - 1 = 0 by omega, show (1 : Int).toNat = 1 from rfl]
      unfold spanN
      simp [hd]
    rw [this]
  · rw [if_neg h, if_neg]
    intro hx
    have := congrArg List.length hx
    rw [List.length_append, spanN_len, spanN_len] at this
    simp only [List.length_nil] at this
    omega
section
variable {neg z : Bool} {s : List UInt8} {e tp k n x : Int} {t : List (Nat × AV)} {o : List (Nat × Ob)} {p : Pat} {K : St → Prop}
theorem s5 (hs : okD s e) (hk : -40000 < k ∧ k < 40000) (hn : 0 ≤ n ∧ n < 20000) (hx : -25000 < x ∧ x < 25000)
    (h3 : look t 3 = some (.box 3 0)) (h4 : look t 4 = some (.box 4 0)) (h7 : look t 7 = some (.box 7 0)) (h8 : look t 8 = some (i64 n)) (h11 : look t 11 = some (i64 k))
    (o3 : look o 3 = some (.box 23 [.bool neg, .str s, i64 e])) (o4 : look o 4 = some (.box 39 [.bool false, .str [], .str [], i64 0])) (o7 : look o 7 = some (.box 39 [.bool neg, .str [], .str [], i64 x])) :
    VC e0 ic21_5 (thenQ K (retQ [(4, (some (some 4)))] (layA neg (spanN s e (x + n - 1) n.toNat, spanN s e (x - 1) k.toNat, x)))) ⟨t, o⟩ := by
  have c1 := con52' (neg := neg) (f := x + n - 1) (t := x) hs (by omega) (by omega) (by omega)
  have c2 := con52' (neg := neg) (f := x - 1) (t := x - k) hs (by omega) (by omega) (by omega)
  rw [show x + n - 1 - x + 1 = n by omega] at c1
  rw [show x - 1 - (x - k) + 1 = k by omega] at c2
  have w1 : IntKind.i64.wrap (x + n) = x + n := by rw [wrap64] <;> omega
  have w2 : IntKind.i64.wrap (x + n - 1) = x + n - 1 := by rw [wrap64] <;> omega
  have w3 : IntKind.i64.wrap (x - 1) = x - 1 := by rw [wrap64] <;> omega
  have w4 : IntKind.i64.wrap (x - k) = x - k := by rw [wrap64] <;> omega
  have l1 := spanN_len s e (x + n - 1) n.toNat
  have l2 := spanN_len s e (x - 1) k.toNat
  unfold layA
  simp only
  generalize spanN s e (x + n - 1) n.toNat = a at *
  generalize spanN s e (x - 1) k.toNat = b at *
  simp only [D] at c1 c2
  by_cases he : a ++ b = []
  · have e1 : (a ++ b == []) = true := by simp [he]
    rw [if_pos he]
    simp only [ic21_5, wkA, Nat.reduceEqDiff, Nat.reduceAdd, Nat.reduceSub, Nat.reduceLeDiff, Nat.reduceLT, Nat.reduceBEq, Nat.reduceBNe, reduceCtorEq, h3, h4, h7, h8, h11, o3, o4, o7, w1, w2, w3, w4]
    refine callFD c1 rfl ?_
    simp only [wkA, Nat.reduceEqDiff, Nat.reduceAdd, Nat.reduceSub, Nat.reduceLeDiff, Nat.reduceLT, Nat.reduceBEq, Nat.reduceBNe, reduceCtorEq, h3, h4, h7, h8, h11, o3, o4, o7, w1, w2, w3, w4]
    refine callFD c2 rfl ?_
    simp only [wkA, Nat.reduceEqDiff, Nat.reduceAdd, Nat.reduceSub, Nat.reduceLeDiff, Nat.reduceLT, Nat.reduceBEq, Nat.reduceBNe, reduceCtorEq, h3, h4, h7, h8, h11, o3, o4, o7, e1]
    refine ⟨by omega, ?_⟩
    simp only [ic21_4, wkA, Nat.reduceEqDiff, Nat.reduceAdd, Nat.reduceSub, Nat.reduceLeDiff, Nat.reduceLT, Nat.reduceBEq, Nat.reduceBNe, reduceCtorEq, shA]
  · have e1 : (a ++ b == []) = false := by simp [he]
    rw [if_neg he]
    simp only [ic21_5, wkA, Nat.reduceEqDiff, Nat.reduceAdd, Nat.reduceSub, Nat.reduceLeDiff, Nat.reduceLT, Nat.reduceBEq, Nat.reduceBNe, reduceCtorEq, h3, h4, h7, h8, h11, o3, o4, o7, w1, w2, w3, w4]
    refine callFD c1 rfl ?_
    simp only [wkA, Nat.reduceEqDiff, Nat.reduceAdd, Nat.reduceSub, Nat.reduceLeDiff, Nat.reduceLT, Nat.reduceBEq, Nat.reduceBNe, reduceCtorEq, h3, h4, h7, h8, h11, o3, o4, o7, w1, w2, w3, w4]
    refine callFD c2 rfl ?_
    simp only [wkA, Nat.reduceEqDiff, Nat.reduceAdd, Nat.reduceSub, Nat.reduceLeDiff, Nat.reduceLT, Nat.reduceBEq, Nat.reduceBNe, reduceCtorEq, h3, h4, h7, h8, h11, o3, o4, o7, e1]
    refine ⟨by omega, ?_⟩
    simp only [ic21_4, wkA, Nat.reduceEqDiff, Nat.reduceAdd, Nat.reduceSub, Nat.reduceLeDiff, Nat.reduceLT, Nat.reduceBEq, Nat.reduceBNe, reduceCtorEq, shA]
def k6 (z : Bool) (l n x e : Int) : Int := if l - n < x - e ∧ z = false then x - e else l - n
theorem s6 (hp : p.Ok) (hs : okD s e) (he : -10000 < e ∧ e < 10000) (hn : 0 ≤ n ∧ n < 20000) (hx : -25000 < x ∧ x < 25000)
    (h2 : look t 2 = some (.box 2 0)) (h3 : look t 3 = some (.box 3 0)) (h4 : look t 4 = some (.box 4 0)) (h6 : look t 6 = some (.bool z)) (h7 : look t 7 = some (.box 7 0)) (h8 : look t 8 = some (i64 n))
    (o2 : look o 2 = some (.box 26 (avCells p.av)))
    (o3 : look o 3 = some (.box 23 [.bool neg, .str s, i64 e])) (o4 : look o 4 = some (.box 39 [.bool false, .str [], .str [], i64 0])) (o7 : look o 7 = some (.box 39 [.bool neg, .str [], .str [], i64 x])) :
    VC e0 ic21_6 (thenQ K (retQ [(4, (some (some 4)))] (layA neg (spanN s e (x + n - 1) n.toNat, spanN s e (x - 1) (k6 z p.least n x e).toNat, x)))) ⟨t, o⟩ := by
  have c25 := con25 hp
  have hc := hp.cnt
  have hw := Pat.whole_le hp
  have hle : p.least ≤ 80 := by unfold Pat.least; split <;> omega
  have w1 : IntKind.i64.wrap ((p.least : Int) - n) = (p.least : Int) - n := by rw [wrap64] <;> omega
  have w2 : IntKind.i64.wrap (x - e) = x - e := by rw [wrap64] <;> omega
  unfold k6
  simp only [Pat.av, items, avCells] at o2 c25
  by_cases h1 : (p.least : Int) - n < x - e
  · have e1 : decide (x - e > (p.least : Int) - n) = true := decide_eq_true h1
    cases z with
    | true =>
      rw [if_neg (by simp)]
      simp only [ic21_6, wkA, Nat.reduceEqDiff, Nat.reduceAdd, Nat.reduceSub, Nat.reduceLeDiff, Nat.reduceLT, Nat.reduceBEq, Nat.reduceBNe, reduceCtorEq, h2, h3, h4, h6, h7, h8, o2, o3, o4, o7]
      refine callF c25 rfl ?_
      simp only [wkA, Nat.reduceEqDiff, Nat.reduceAdd, Nat.reduceSub, Nat.reduceLeDiff, Nat.reduceLT, Nat.reduceBEq, Nat.reduceBNe, reduceCtorEq, h2, h3, h4, h6, h7, h8, o2, o3, o4, o7, w1, w2, e1, Bool.not_true]
      exact s5 hs (by omega) hn hx rfl rfl rfl rfl rfl rfl rfl rfl
    | false =>
      rw [if_pos ⟨h1, rfl⟩]
      simp only [ic21_6, wkA, Nat.reduceEqDiff, Nat.reduceAdd, Nat.reduceSub, Nat.reduceLeDiff, Nat.reduceLT, Nat.reduceBEq, Nat.reduceBNe, reduceCtorEq, h2, h3, h4, h6, h7, h8, o2, o3, o4, o7]
      refine callF c25 rfl ?_
      simp only [wkA, Nat.reduceEqDiff, Nat.reduceAdd, Nat.reduceSub, Nat.reduceLeDiff, Nat.reduceLT, Nat.reduceBEq, Nat.reduceBNe, reduceCtorEq, h2, h3, h4, h6, h7, h8, o2, o3, o4, o7, w1, w2, e1, Bool.not_false]
      exact s5 hs (by omega) hn hx rfl rfl rfl rfl rfl rfl rfl rfl
  · have e1 : decide (x - e > (p.least : Int) - n) = false := decide_eq_false h1
    rw [if_neg (by omega)]
    simp only [ic21_6, wkA, Nat.reduceEqDiff, Nat.reduceAdd, Nat.reduceSub, Nat.reduceLeDiff, Nat.reduceLT, Nat.reduceBEq, Nat.reduceBNe, reduceCtorEq, h2, h3, h4, h6, h7, h8, o2, o3, o4, o7]
    refine callF c25 rfl ?_
    simp only [wkA, Nat.reduceEqDiff, Nat.reduceAdd, Nat.reduceSub, Nat.reduceLeDiff, Nat.reduceLT, Nat.reduceBEq, Nat.reduceBNe, reduceCtorEq, h2, h3, h4, h6, h7, h8, o2, o3, o4, o7, w1, w2, e1]
    exact s5 hs (by omega) hn hx rfl rfl rfl rfl rfl rfl rfl rfl
theorem tmod_beq (a b : Int) : (a.tmod b != 0) = (a % b != 0) := by
  rw [Bool.eq_iff_iff, bne_iff_ne, bne_iff_ne, ne_eq, ne_eq, ← Int.dvd_iff_tmod_eq_zero, ← Int.dvd_iff_emod_eq_zero]
def I21 (p : Pat) (neg : Bool) (s : List UInt8) (e tp : Int) (m : Nat) (st : St) : Prop := ∃ j : Nat, m = (tp % p.maxInt).toNat - j ∧ (j : Int) ≤ tp % p.maxInt ∧
  st = ⟨[(2, .box 2 0), (3, .box 3 0), (4, .box 4 0), (5, i64 tp), (6, .bool false), (7, .box 7 0)], [(2, .box 26 (avCells p.av)), (3, .box 23 [.bool neg, .str s, i64 e]), (4, .box 39 [.bool false, .str [], .str [], i64 0]), (7, .box 39 [.bool neg, .str [], .str [], i64 (tp - j)])]⟩
theorem s7 (hp : p.Ok) (hs : okD s e) (he : -10000 < e ∧ e < 10000) (hn : 0 ≤ n ∧ n < 20000) (hx : -25000 < x ∧ x < 25000) (ht : -20000 < tp ∧ tp < 20000)
    (hN : p.eng = false → z = false → x = tp - n + 1) (hz : z = true → x = 0 ∧ tp = 0)
    (h2 : look t 2 = some (.box 2 0)) (h3 : look t 3 = some (.box 3 0)) (h4 : look t 4 = some (.box 4 0)) (h5 : look t 5 = some (i64 tp)) (h6 : look t 6 = some (.bool z)) (h7 : look t 7 = some (.box 7 0)) (h8 : look t 8 = some (i64 n))
    (o2 : look o 2 = some (.box 26 (avCells p.av)))
    (o3 : look o 3 = some (.box 23 [.bool neg, .str s, i64 e])) (o4 : look o 4 = some (.box 39 [.bool false, .str [], .str [], i64 0])) (o7 : look o 7 = some (.box 39 [.bool neg, .str [], .str [], i64 x]))
    {N X : Int} (hN' : N = if p.eng = true then tp % p.maxInt + 1 else n) (hX' : X = if z = true then 0 else if p.eng = true then tp - tp % p.maxInt else tp - n + 1) :
    VC e0 ic21_7 (thenQ K (retQ [(4, (some (some 4)))] (layA neg (spanN s e (X + N - 1) N.toNat, spanN s e (X - 1) (k6 z p.least N X e).toNat, X)))) ⟨t, o⟩ := by
  have c27 := con27 p
  have hc := hp.cnt
  cases hE : p.eng with
  | false =>
    rw [hE, if_neg (by simp)] at hN'
    have hXx : X = x := by
      rw [hX']
      cases z with
      | true => rw [if_pos rfl, (hz rfl).1]
      | false => rw [if_neg (by simp), if_neg (by simp [hE]), hN hE rfl]
    rw [hN', hXx]
    rw [hE] at c27
    simp only [Pat.av, items, avCells] at o2 c27
    simp only [ic21_7, wkA, Nat.reduceEqDiff, Nat.reduceAdd, Nat.reduceSub, Nat.reduceLeDiff, Nat.reduceLT, Nat.reduceBEq, Nat.reduceBNe, reduceCtorEq, h2, h3, h4, h5, h6, h7, h8, o2, o3, o4, o7]
    refine callF c27 rfl ?_
    simp only [wkA, Nat.reduceEqDiff, Nat.reduceAdd, Nat.reduceSub, Nat.reduceLeDiff, Nat.reduceLT, Nat.reduceBEq, Nat.reduceBNe, reduceCtorEq, h2, h3, h4, h5, h6, h7, h8, o2, o3, o4, o7]
    exact s6 hp hs he hn hx rfl rfl rfl rfl rfl rfl rfl rfl rfl rfl
  | true =>
    rw [hE, if_pos rfl] at hN'
    have hm := eng_max hE
    have hr1 := Int.emod_nonneg tp (b := (p.maxInt : Int)) (by omega)
    have hr2 := Int.emod_lt_of_pos tp (b := (p.maxInt : Int)) (by omega)
    rw [hE] at c27
    cases z with
    | true =>
      obtain ⟨rfl, rfl⟩ := hz rfl
      rw [if_pos rfl] at hX'
      rw [Int.zero_emod] at hN'
      subst hX'
      subst hN'
      simp only [Pat.av, items, avCells] at o2 c27
      simp only [ic21_7, wkA, Nat.reduceEqDiff, Nat.reduceAdd, Nat.reduceSub, Nat.reduceLeDiff, Nat.reduceLT, Nat.reduceBEq, Nat.reduceBNe, reduceCtorEq, h2, h3, h4, h5, h6, h7, h8, o2, o3, o4, o7]
      refine callF c27 rfl ?_
      simp only [wkA, Nat.reduceEqDiff, Nat.reduceAdd, Nat.reduceSub, Nat.reduceLeDiff, Nat.reduceLT, Nat.reduceBEq, Nat.reduceBNe, reduceCtorEq, h2, h3, h4, h5, h6, h7, h8, o2, o3, o4, o7, Bool.not_true]
      exact s6 hp hs he (by omega) (by omega) rfl rfl rfl rfl rfl rfl rfl rfl rfl rfl
    | false =>
      rw [if_neg (by simp), if_pos hE] at hX'
      have o2' := o2
      simp only [Pat.av, items, avCells] at o2 c27
      simp only [ic21_7, wkA, Nat.reduceEqDiff, Nat.reduceAdd, Nat.reduceSub, Nat.reduceLeDiff, Nat.reduceLT, Nat.reduceBEq, Nat.reduceBNe, reduceCtorEq, h2, h3, h4, h5, h6, h7, h8, o2, o3, o4, o7]
      refine callF c27 rfl ?_
      simp only [wkA, Nat.reduceEqDiff, Nat.reduceAdd, Nat.reduceSub, Nat.reduceLeDiff, Nat.reduceLT, Nat.reduceBEq, Nat.reduceBNe, reduceCtorEq, h2, h3, h4, h5, h6, h7, h8, o2, o3, o4, o7, Bool.not_false]
      refine ⟨I21 p neg s e tp, (tp % p.maxInt).toNat, _, Gh.refl _, ⟨0, by omega, by omega, by rw [Int.natCast_zero, Int.sub_zero]; rfl⟩, ?_⟩
      rintro m st ⟨j, rfl, hj, rfl⟩
      have hem : (tp - (j : Int)) % (p.maxInt : Int) = tp % p.maxInt - j := by
        have hd := Int.emod_add_mul_ediv tp (p.maxInt : Int)
        have : tp - (j : Int) = (tp % p.maxInt - j) + p.maxInt * (tp / p.maxInt) := by omega
        rw [this, Int.add_mul_emod_self_left, Int.emod_eq_of_lt (by omega) (by omega)]
      simp only [Pat.av, items, avCells]
      have hne : ¬ (p.maxInt : Int) = 0 := by omega
      have w1 : IntKind.i64.wrap (tp - (j : Int) - 1) = tp - ((j + 1 : Nat) : Int) := by rw [wrap64] <;> omega
      by_cases hjr : (j : Int) = tp % p.maxInt
      · have e1 : ((tp - (j : Int)).tmod (p.maxInt : Int) != 0) = false := by rw [tmod_beq, hem, hjr]; simp
        have hXj : X = tp - j := by omega
        have w2 : IntKind.i64.wrap (tp - X) = tp - X := by rw [wrap64] <;> omega
        have w3 : IntKind.i64.wrap (tp - X + 1) = N := by rw [wrap64] <;> omega
        rw [← hXj] at e1 ⊢
        simp only [ic21_2, wkA, Nat.reduceEqDiff, Nat.reduceAdd, Nat.reduceSub, Nat.reduceLeDiff, Nat.reduceLT, Nat.reduceBEq, Nat.reduceBNe, reduceCtorEq, e1]
        refine ⟨hne, ?_⟩
        simp only [ic21_3, wkA, Nat.reduceEqDiff, Nat.reduceAdd, Nat.reduceSub, Nat.reduceLeDiff, Nat.reduceLT, Nat.reduceBEq, Nat.reduceBNe, reduceCtorEq, w2, w3]
        exact s6 hp hs he (by omega) (by omega) rfl rfl rfl rfl rfl rfl rfl rfl rfl rfl
      · have e1 : ((tp - (j : Int)).tmod (p.maxInt : Int) != 0) = true := by rw [tmod_beq, hem, bne_iff_ne]; omega
        simp only [ic21_2, wkA, Nat.reduceEqDiff, Nat.reduceAdd, Nat.reduceSub, Nat.reduceLeDiff, Nat.reduceLT, Nat.reduceBEq, Nat.reduceBNe, reduceCtorEq, e1]
        simp only [ic21_1, wkA, Nat.reduceEqDiff, Nat.reduceAdd, Nat.reduceSub, Nat.reduceLeDiff, Nat.reduceLT, Nat.reduceBEq, Nat.reduceBNe, reduceCtorEq, w1]
        exact ⟨hne, _, (tp % p.maxInt).toNat - (j + 1), Gh.refl _, by omega, j + 1, rfl, by omega, rfl⟩
end
theorem sci_eq {p : Pat} {s : List UInt8} {e : Int} : (k6 (decide (dv s = 0)) p.least (sciN p s e) (sciX p s e) e).toNat = (sciB p s e).toNat := by
  unfold sciB fineS imax k6
  generalize sciN p s e = n
  generalize sciX p s e = x
  by_cases h0 : dv s = 0
  · simp only [h0, decide_true, Bool.true_eq_false, and_false, if_false, if_true]
    split <;> omega
  · simp only [h0, decide_false, and_true, if_false]
    split <;> split <;> (try split) <;> omega
theorem con21 {p : Pat} (h : p.Ok) {neg : Bool} {s : List UInt8} {e : Int} (hs : okD s e) (h50 : N neg (dv s) e = D neg s e) (hz : (s == [48]) = decide (dv s = 0)) (he : -5000 < e ∧ e < 5000) (hl : s.length < 9000) :
    Fn 21 [p.av, D neg s e] (layA neg (rawL p s e)) := by
  have c50 := con50 (neg := neg) hs
  rw [h50] at c50
  have c51 := con51 (neg := neg) hs
  have c29 := con29 h
  rw [wholeR_eq] at c29
  have hc := h.cnt
  have hw := Pat.whole_le h
  have hnd := nd_dv hs.1
  have ht : -5001 < top (dv s) e ∧ top (dv s) e < 14000 := by unfold top; split <;> omega
  have hpb := plain_bd h (s := s) he (by omega)
  have hsb := sci_bd h (s := s) he (by omega)
  cases hsci : p.sci with
  | false =>
    have w2 : IntKind.i64.wrap ((p.minSig : Int) - 1) = (p.minSig : Int) - 1 := by rw [wrap64] <;> omega
    have w3 : IntKind.i64.wrap ((p.minSig : Int) - 1 - top (dv s) e) = (p.minSig : Int) - 1 - top (dv s) e := by rw [wrap64] <;> omega
    rw [← lay_plain h hz hpb.1.1 hpb.2.1 hsci]
    by_cases h1 : 0 < p.minSig
    · have e1 : decide ((p.minSig : Int) > 0) = true := decide_eq_true (by omega)
      have hq := plain_eq (s := s) (e := e) h (k := (p.minSig : Int) - 1 - top (dv s) e) (n := 1) (by rw [if_pos h1]) (by rw [if_pos h1])
      rw [← hq.1, ← hq.2]
      refine e21 (by simp) ?_
      simp only [Pat.av, items, D] at c50 c51 ⊢
      simp only [ic21, wkA, Nat.reduceEqDiff, Nat.reduceAdd, Nat.reduceSub, Nat.reduceLeDiff, Nat.reduceLT, Nat.reduceBEq, Nat.reduceBNe, reduceCtorEq, hsci]
      refine callF c50 rfl ?_
      simp only [wkA, Nat.reduceEqDiff, Nat.reduceAdd, Nat.reduceSub, Nat.reduceLeDiff, Nat.reduceLT, Nat.reduceBEq, Nat.reduceBNe, reduceCtorEq, hsci]
      refine callF c51 rfl ?_
      simp only [wkA, Nat.reduceEqDiff, Nat.reduceAdd, Nat.reduceSub, Nat.reduceLeDiff, Nat.reduceLT, Nat.reduceBEq, Nat.reduceBNe, reduceCtorEq, hsci, hz]
      simp only [ic21_13, wkA, Nat.reduceEqDiff, Nat.reduceAdd, Nat.reduceSub, Nat.reduceLeDiff, Nat.reduceLT, Nat.reduceBEq, Nat.reduceBNe, reduceCtorEq, e1, w2, w3]
      exact s12 hs (by omega) (by omega) (by omega) (by omega) rfl rfl rfl rfl rfl rfl rfl rfl rfl rfl
    · have e1 : decide ((p.minSig : Int) > 0) = false := decide_eq_false (by omega)
      have hq := plain_eq (s := s) (e := e) h (k := (p.minFrac : Int)) (n := (p.minInt : Int)) (by rw [if_neg h1]) (by rw [if_neg h1])
      rw [← hq.1, ← hq.2]
      refine e21 (by simp) ?_
      simp only [Pat.av, items, D] at c50 c51 ⊢
      simp only [ic21, wkA, Nat.reduceEqDiff, Nat.reduceAdd, Nat.reduceSub, Nat.reduceLeDiff, Nat.reduceLT, Nat.reduceBEq, Nat.reduceBNe, reduceCtorEq, hsci]
      refine callF c50 rfl ?_
      simp only [wkA, Nat.reduceEqDiff, Nat.reduceAdd, Nat.reduceSub, Nat.reduceLeDiff, Nat.reduceLT, Nat.reduceBEq, Nat.reduceBNe, reduceCtorEq, hsci]
      refine callF c51 rfl ?_
      simp only [wkA, Nat.reduceEqDiff, Nat.reduceAdd, Nat.reduceSub, Nat.reduceLeDiff, Nat.reduceLT, Nat.reduceBEq, Nat.reduceBNe, reduceCtorEq, hsci, hz]
      simp only [ic21_13, wkA, Nat.reduceEqDiff, Nat.reduceAdd, Nat.reduceSub, Nat.reduceLeDiff, Nat.reduceLT, Nat.reduceBEq, Nat.reduceBNe, reduceCtorEq, e1, w2, w3]
      exact s12 hs (by omega) (by omega) (by omega) (by omega) rfl rfl rfl rfl rfl rfl rfl rfl rfl rfl
  | true =>
    have hR : rawL p s e = (spanN s e (sciX p s e + sciN p s e - 1) (sciN p s e).toNat, spanN s e (sciX p s e - 1) (k6 (decide (dv s = 0)) p.least (sciN p s e) (sciX p s e) e).toNat, sciX p s e) := by
      rw [sci_eq]; unfold rawL; rw [if_pos hsci]
    rw [hR]
    have w2 : IntKind.i64.wrap (top (dv s) e - (p.whole : Int)) = top (dv s) e - p.whole := by rw [wrap64] <;> omega
    have w3 : IntKind.i64.wrap (top (dv s) e - (p.whole : Int) + 1) = top (dv s) e - p.whole + 1 := by rw [wrap64] <;> omega
    have hN : sciN p s e = if p.eng = true then top (dv s) e % p.maxInt + 1 else (p.whole : Int) := rfl
    have hX : sciX p s e = if decide (dv s = 0) = true then 0 else if p.eng = true then top (dv s) e - top (dv s) e % p.maxInt else top (dv s) e - p.whole + 1 := by
      unfold sciX; simp only [decide_eq_true_eq]
    generalize sciN p s e = N1 at *
    generalize sciX p s e = X1 at *
    refine e21 (by simp) ?_
    by_cases h0 : dv s = 0
    · have ht0 : top (dv s) e = 0 := by unfold top; rw [if_pos h0]
      rw [decide_eq_true h0] at hz hX ⊢
      rw [ht0] at hN hX c51
      have hav : avCells p.av = avCells p.av := rfl
      conv at hav => lhs; simp only [Pat.av, items, avCells, hsci]
      simp only [Pat.av, items, D, hsci] at c50 c51 c29 ⊢
      simp only [ic21, wkA, Nat.reduceEqDiff, Nat.reduceAdd, Nat.reduceSub, Nat.reduceLeDiff, Nat.reduceLT, Nat.reduceBEq, Nat.reduceBNe, reduceCtorEq]
      refine callF c50 rfl ?_
      simp only [wkA, Nat.reduceEqDiff, Nat.reduceAdd, Nat.reduceSub, Nat.reduceLeDiff, Nat.reduceLT, Nat.reduceBEq, Nat.reduceBNe, reduceCtorEq]
      refine callF c51 rfl ?_
      simp only [wkA, Nat.reduceEqDiff, Nat.reduceAdd, Nat.reduceSub, Nat.reduceLeDiff, Nat.reduceLT, Nat.reduceBEq, Nat.reduceBNe, reduceCtorEq, hz]
      refine callF c29 rfl ?_
      simp only [wkA, Nat.reduceEqDiff, Nat.reduceAdd, Nat.reduceSub, Nat.reduceLeDiff, Nat.reduceLT, Nat.reduceBEq, Nat.reduceBNe, reduceCtorEq, Bool.not_true]
      exact s7 (z := true) (x := 0) h hs (by omega) (n := (p.whole : Int)) (by omega) (by omega) (tp := 0) (by omega) (fun _ hh => by cases hh) (fun _ => ⟨rfl, rfl⟩) rfl rfl rfl rfl rfl rfl rfl (by rw [← hav]; rfl) rfl rfl rfl hN hX
    · rw [decide_eq_false h0] at hz hX ⊢
      generalize top (dv s) e = tp at *
      have hav : avCells p.av = avCells p.av := rfl
      conv at hav => lhs; simp only [Pat.av, items, avCells, hsci]
      simp only [Pat.av, items, D, hsci] at c50 c51 c29 ⊢
      simp only [ic21, wkA, Nat.reduceEqDiff, Nat.reduceAdd, Nat.reduceSub, Nat.reduceLeDiff, Nat.reduceLT, Nat.reduceBEq, Nat.reduceBNe, reduceCtorEq]
      refine callF c50 rfl ?_
      simp only [wkA, Nat.reduceEqDiff, Nat.reduceAdd, Nat.reduceSub, Nat.reduceLeDiff, Nat.reduceLT, Nat.reduceBEq, Nat.reduceBNe, reduceCtorEq]
      refine callF c51 rfl ?_
      simp only [wkA, Nat.reduceEqDiff, Nat.reduceAdd, Nat.reduceSub, Nat.reduceLeDiff, Nat.reduceLT, Nat.reduceBEq, Nat.reduceBNe, reduceCtorEq, hz]
      refine callF c29 rfl ?_
      simp only [wkA, Nat.reduceEqDiff, Nat.reduceAdd, Nat.reduceSub, Nat.reduceLeDiff, Nat.reduceLT, Nat.reduceBEq, Nat.reduceBNe, reduceCtorEq, Bool.not_false, w2, w3]
      exact s7 (z := false) (x := tp - p.whole + 1) h hs (by omega) (n := (p.whole : Int)) (by omega) (by omega) (tp := tp) (by omega) (fun _ _ => rfl) (fun hh => by cases hh) rfl rfl rfl rfl rfl rfl rfl (by rw [← hav]; rfl) rfl rfl rfl hN hX
theorem eqSh (neg : Bool) (a b : List UInt8) (x : Int) : eqCells [AV.bool neg, .str a, .str b, i64 x] [AV.bool neg, .str a, .str b, i64 x] = some true := by
  simp [eqCells, eqCell]
theorem lays {p : Pat} (hp : CmpOk p) {m : Int} {neg n : Bool} {s : List UInt8} {e : Int} {q : Nat} {E : Int} (h : shS p m neg s e = .ok n q E) :
    Fn 20 [p.av, N n q E] (layA n (rawL p (text (core q)) (ne (core q) (ne q E + p.mult)))) ∧ Fn 22 [N n q E, i64 p.mult] (D n (text (core q)) (ne (core q) (ne q E + p.mult))) ∧
    Fn 21 [p.av, D n (text (core q)) (ne (core q) (ne q E + p.mult))] (layA n (rawL p (text (core q)) (ne (core q) (ne q E + p.mult)))) := by
  obtain ⟨hs, hl, he1, he2⟩ := goodD_ok (goodD_of (shS_rngd h))
  have hm := p.mult_le
  have hd : dv (text (core q)) = core q := dv_text _
  have h20 := con20 hp.ok (neg := n) hs (by omega) (by omega)
  rw [hd, core_core] at h20
  have h22 := con22 (neg := n) (n := (p.mult : Int)) hs ⟨hs.1, hs.2.1, hs.2.2.1, by omega, by omega⟩ (by omega)
  rw [hd] at h22
  unfold N at h22
  rw [core_core] at h22
  have hnd : nd (core q) ≤ 1000 := by have := nd_dv hs.1; rw [hd] at this; omega
  have htz := tz_le (core q)
  have hX : -2000 < ne (core q) (ne q E + p.mult) ∧ ne (core q) (ne q E + p.mult) < 3000 := by unfold ne at *; split <;> omega
  have hs2 : okD (text (core q)) (ne (core q) (ne q E + p.mult)) := ⟨hs.1, hs.2.1, hs.2.2.1, by omega, by omega⟩
  have h50 : N n (dv (text (core q))) (ne (core q) (ne q E + p.mult)) = D n (text (core q)) (ne (core q) (ne q E + p.mult)) := by
    rw [hd, N, core_core]
    have := ne_core (core q) (ne q E + p.mult)
    rw [core_core] at this
    rw [this]
  have hz : (text (core q) == [48]) = decide (dv (text (core q)) = 0) := by
    rw [hd, strBeq, decide_eq_decide]; exact text_eq48
  exact ⟨h20, h22, con21 hp.ok hs2 h50 hz (by omega) (by omega)⟩
theorem con7 (s : List UInt8) (m : Int) (d : Dm) (hs : s.length < 1099511627776) (hd : d.s.length < 1099511627776) : Fn 7 [.str s, i64 m, d.av] (.bool true) := by
  have c17 := con17 (d := d) hs hd
  have c18 := con18
  have hp := cmpP_ok s
  generalize (patG s && Dm.in19 d) = g at c17
  generalize cmpP s = p at *
  have c23 := con23 hp.ok
  have c19 := con19 hp.ok (m := m) (neg := d.neg) (s := d.s) (e := d.e) hd
  refine e7 (by simp) ?_
  simp only [Pat.av, items, Dm.av, D] at c17 c19 c23
  simp only [ic7, D, Dm.av, wkA, Nat.reduceEqDiff, Nat.reduceAdd, Nat.reduceSub, Nat.reduceLeDiff, Nat.reduceLT, Nat.reduceBEq, Nat.reduceBNe, reduceCtorEq]
  refine callF c17 rfl ?_
  cases g with
  | false =>
    simp only [wkA, Nat.reduceEqDiff, Nat.reduceAdd, Nat.reduceSub, Nat.reduceLeDiff, Nat.reduceLT, Nat.reduceBEq, Nat.reduceBNe, reduceCtorEq, Bool.not_false]
    refine callF c18 rfl ?_
    simp only [wkA, Nat.reduceEqDiff, Nat.reduceAdd, Nat.reduceSub, Nat.reduceLeDiff, Nat.reduceLT, Nat.reduceBEq, Nat.reduceBNe, reduceCtorEq]
  | true =>
    simp only [wkA, Nat.reduceEqDiff, Nat.reduceAdd, Nat.reduceSub, Nat.reduceLeDiff, Nat.reduceLT, Nat.reduceBEq, Nat.reduceBNe, reduceCtorEq, Bool.not_true]
    simp only [ic7_2, wkA, Nat.reduceEqDiff, Nat.reduceAdd, Nat.reduceSub, Nat.reduceLeDiff, Nat.reduceLT, Nat.reduceBEq, Nat.reduceBNe, reduceCtorEq]
    cases hx : shS p m d.neg d.s d.e with
    | err k =>
      have hk := shS_err hx
      have ek : (k != 0) = true := by simp [hk]
      rw [hx] at c19
      simp only [Rs.av, zD, D] at c19
      refine callF c19 rfl ?_
      simp only [wkA, Nat.reduceEqDiff, Nat.reduceAdd, Nat.reduceSub, Nat.reduceLeDiff, Nat.reduceLT, Nat.reduceBEq, Nat.reduceBNe, reduceCtorEq, ek]
      refine callF c18 rfl ?_
      simp only [wkA, Nat.reduceEqDiff, Nat.reduceAdd, Nat.reduceSub, Nat.reduceLeDiff, Nat.reduceLT, Nat.reduceBEq, Nat.reduceBNe, reduceCtorEq]
    | ok n q E =>
      obtain ⟨c20, c22, c21⟩ := lays hp hx
      rw [hx] at c19
      have z0 : ((0 : Int) != 0) = false := rfl
      unfold layA shA at c20 c21
      generalize rawL p (text (core q)) (ne (core q) (ne q E + p.mult)) = r at *
      obtain ⟨a, b, x⟩ := r
      simp only at c20 c21
      generalize (if a ++ b = [] then [48] else a) = a' at *
      simp only [N] at c19 c20 c22
      simp only [Rs.av, N] at c19
      generalize ne (core q) (ne q E + p.mult) = X2 at *
      generalize text (core q) = T at *
      generalize ne q E = X at *
      simp only [D, Pat.av, items] at c19 c20 c21 c22
      refine callF c19 rfl ?_
      simp only [wkA, Nat.reduceEqDiff, Nat.reduceAdd, Nat.reduceSub, Nat.reduceLeDiff, Nat.reduceLT, Nat.reduceBEq, Nat.reduceBNe, reduceCtorEq, z0]
      simp only [ic7_1, wkA, Nat.reduceEqDiff, Nat.reduceAdd, Nat.reduceSub, Nat.reduceLeDiff, Nat.reduceLT, Nat.reduceBEq, Nat.reduceBNe, reduceCtorEq]
      refine callFD c18 rfl ?_
      simp only [wkA, Nat.reduceEqDiff, Nat.reduceAdd, Nat.reduceSub, Nat.reduceLeDiff, Nat.reduceLT, Nat.reduceBEq, Nat.reduceBNe, reduceCtorEq]
      refine callFD c20 rfl ?_
      simp only [wkA, Nat.reduceEqDiff, Nat.reduceAdd, Nat.reduceSub, Nat.reduceLeDiff, Nat.reduceLT, Nat.reduceBEq, Nat.reduceBNe, reduceCtorEq]
      refine callFD c23 rfl ?_
      simp only [wkA, Nat.reduceEqDiff, Nat.reduceAdd, Nat.reduceSub, Nat.reduceLeDiff, Nat.reduceLT, Nat.reduceBEq, Nat.reduceBNe, reduceCtorEq]
      refine callFD c22 rfl ?_
      simp only [wkA, Nat.reduceEqDiff, Nat.reduceAdd, Nat.reduceSub, Nat.reduceLeDiff, Nat.reduceLT, Nat.reduceBEq, Nat.reduceBNe, reduceCtorEq]
      refine callFD c21 rfl ?_
      simp only [wkA, Nat.reduceEqDiff, Nat.reduceAdd, Nat.reduceSub, Nat.reduceLeDiff, Nat.reduceLT, Nat.reduceBEq, Nat.reduceBNe, reduceCtorEq, binV, eqSh, ckind]
end Go.Proofs.YtgehlcgjchfibaaGreatDoor.F
namespace Go.Proofs.YtgehlcgjchfibaaGreatDoor.F
theorem digAt_dgt {s : List UInt8} {e p K : Int} (h : dgs s = true) (h1 : K ≤ e) (h2 : K ≤ p) : digAt s e p = dgt (dv s * 10 ^ (e - K).toNat) (p - K).toNat := by
  unfold digAt
  by_cases hp : p < e
  · rw [if_pos (.inl (by omega))]
    unfold dgt
    obtain ⟨j, hj⟩ : ∃ j, (e - K).toNat = (p - K).toNat + (j + 1) := ⟨(e - K).toNat - (p - K).toNat - 1, by omega⟩
    rw [hj, Nat.pow_add, Nat.pow_succ, Nat.mul_comm (10 ^ (p - K).toNat), ← Nat.mul_assoc, Nat.mul_div_cancel _ (Nat.pow_pos (by decide)), ← Nat.mul_assoc, Nat.mul_mod_left]
  · by_cases hl : p - e ≥ (s.length : Int)
    · rw [if_pos (.inr (by omega))]
      refine (dgt_zero ?_).symm
      have h3 := dv_lt h
      have h4 : (p - K).toNat = (p - e).toNat + (e - K).toNat := by omega
      rw [h4, Nat.pow_add]
      refine Nat.mul_lt_mul_of_pos_right (Nat.lt_of_lt_of_le h3 (Nat.pow_le_pow_right (by decide) (by omega))) (Nat.pow_pos (by decide))
    · rw [if_neg (by omega), ← dgt_get h (by omega)]
      unfold dgt
      rw [show (p - K).toNat = (e - K).toNat + (p - e).toNat by omega, Nat.pow_add, ← Nat.div_div_eq_div_mul, Nat.mul_div_cancel _ (Nat.pow_pos (by decide))]
theorem span_dgs {s : List UInt8} {e f : Int} (h : dgs s = true) (n : Nat) : dgs (spanN s e f n) = true := by
  refine dgs_mem.2 fun c hc => ?_
  obtain ⟨j, _, rfl⟩ := List.mem_map.1 hc
  have := digAt_lt (e := e) (p := f - j) h
  rw [isDg_iff, ofNat_dg _ this]
  omega
theorem span_dv {s : List UInt8} {e f K : Int} (h : dgs s = true) (h1 : K ≤ e) : ∀ n : Nat, K ≤ f - n + 1 → dv (spanN s e f n) = dv s * 10 ^ (e - K).toNat / 10 ^ (f - n + 1 - K).toNat % 10 ^ n
  | 0, _ => by simp [spanN, dv, Nat.mod_one]
  | n + 1, hK => by
    have ih := span_dv (f := f) h h1 n (by omega)
    have hd := digAt_dgt (p := f - n) h h1 (by omega)
    have hlt := digAt_lt (e := e) (p := f - n) h
    rw [spanN_succ, dv_snoc, ih, ofNat_dg _ hlt, hd]
    generalize dv s * 10 ^ (e - K).toNat = V at *
    obtain ⟨i, hi⟩ : ∃ i, (f - n - K).toNat = i := ⟨_, rfl⟩
    rw [show (f - n + 1 - K).toNat = i + 1 by omega, hi, show (f - (n + 1 : Nat) + 1 - K).toNat = i by omega]
    unfold dgt
    rw [Nat.pow_succ, ← Nat.div_div_eq_div_mul, Nat.add_sub_cancel_left]
    generalize V / 10 ^ i = U
    rw [Nat.pow_succ, Nat.mul_comm (10 ^ n) 10, Nat.mod_mul]
    omega
theorem span_add (s : List UInt8) (e f : Int) (n : Nat) : ∀ m : Nat, spanN s e f (n + m) = spanN s e f n ++ spanN s e (f - n) m
  | 0 => by simp [spanN]
  | m + 1 => by
    rw [← Nat.add_assoc, spanN_succ, span_add s e f n m, spanN_succ, List.append_assoc, show f - ((n + m : Nat) : Int) = f - n - m by omega]
theorem span_all {s : List UInt8} {e f : Int} {n : Nat} (h : dgs s = true) (h1 : dv s ≠ 0 → f - n + 1 ≤ e) (h2 : dv s ≠ 0 → top (dv s) e ≤ f) : dv (spanN s e f n) = dv s * 10 ^ (e - (f - n + 1)).toNat := by
  by_cases h0 : dv s = 0
  · obtain ⟨K, hK⟩ : ∃ K : Int, K = if f - n + 1 < e then f - n + 1 else e := ⟨_, rfl⟩
    rw [span_dv (K := K) h (by rw [hK]; split <;> omega) n (by rw [hK]; split <;> omega), h0]
    simp
  · have := span_dv (f := f) (K := f - n + 1) h (h1 h0) n (by omega)
    rw [this, Int.sub_self, Int.toNat_zero, Nat.pow_zero, Nat.div_one]
    refine Nat.mod_eq_of_lt ?_
    have ht := h2 h0
    unfold top at ht
    rw [if_neg h0] at ht
    have h1' := h1 h0
    have hn : n = (n - (e - (f - n + 1)).toNat) + (e - (f - n + 1)).toNat := by omega
    generalize hj : (e - (f - n + 1)).toNat = j at *
    rw [hn, Nat.pow_add]
    exact Nat.mul_lt_mul_of_pos_right (Nat.lt_of_lt_of_le (lt_nd _) (Nat.pow_le_pow_right (by decide) (by omega))) (Nat.pow_pos (by decide))
theorem raw_bd {p : Pat} (hp : p.Ok) {s : List UInt8} {e : Int} (he : -5000 < e ∧ e < 5000) (ht : -20000 < top (dv s) e ∧ top (dv s) e < 20000) :
    ∃ (N B : Nat) (x : Int), rawL p s e = (spanN s e (x + N - 1) N, spanN s e (x - 1) B, x) ∧ N < 30000 ∧ B < 30000 ∧ (-20100 < x ∧ x < 20100) ∧
    (dv s ≠ 0 → x - B ≤ e ∧ top (dv s) e ≤ x + N - 1) ∧ (p.sci = false → x = 0 ∧ (p.minSig = 0 → p.minInt ≤ N ∧ p.minFrac ≤ B) ∧ (B : Int) = plainB p s e) ∧
    (p.eng = true → x % p.maxInt = 0 ∧ 1 ≤ N ∧ N ≤ p.maxInt) ∧ (p.sci = true → p.eng = false → N = p.whole) := by
  obtain ⟨⟨a1, a2⟩, a3, a4⟩ := plain_bd hp he ht
  obtain ⟨b1, b2, b3, b4⟩ := sci_bd hp he ht
  cases hsci : p.sci with
  | false =>
    refine ⟨(plainN p s e).toNat, (plainB p s e).toNat, 0, ?_, by omega, by omega, by omega, fun h0 => ⟨?_, ?_⟩, fun _ => ⟨rfl, fun hm => ⟨?_, ?_⟩, by omega⟩, fun h => ?_, fun h => by cases h⟩
    · unfold rawL
      rw [if_neg (by simp [hsci]), show (0 : Int) + ((plainN p s e).toNat : Int) - 1 = plainN p s e - 1 by omega, show (0 : Int) - 1 = -1 by omega]
    · have : fineS s e 0 ≤ plainB p s e := by unfold plainB imax; split <;> omega
      unfold fineS at this
      rw [if_neg h0] at this
      split at this <;> omega
    · have : top (dv s) e + 1 ≤ plainN p s e := by unfold plainN imax; rw [if_neg h0]; split <;> omega
      omega
    · have : (p.minInt : Int) ≤ plainN p s e := by
        unfold plainN imax
        rw [if_neg (by omega : ¬ 0 < p.minSig)]
        split
        · omega
        · split <;> omega
      omega
    · have : (p.minFrac : Int) ≤ plainB p s e := by
        unfold plainB imax
        rw [if_neg (by omega : ¬ 0 < p.minSig)]
        split <;> omega
      omega
    · unfold Pat.eng at h; rw [hsci] at h; simp at h
  | true =>
    refine ⟨(sciN p s e).toNat, (sciB p s e).toNat, sciX p s e, ?_, by omega, by omega, by omega, fun h0 => ⟨?_, ?_⟩, fun h => by simp at h, fun h => ?_, fun _ h => ?_⟩
    · unfold rawL
      rw [if_pos hsci, show (sciX p s e : Int) + ((sciN p s e).toNat : Int) - 1 = sciX p s e + sciN p s e - 1 by omega]
    · have : fineS s e (sciX p s e) ≤ sciB p s e := by unfold sciB imax; split <;> omega
      unfold fineS at this
      rw [if_neg h0] at this
      split at this <;> omega
    · have : sciX p s e + sciN p s e - 1 = top (dv s) e := by
        unfold sciX sciN
        rw [if_neg h0]
        split <;> omega
      omega
    · have hm := eng_max h
      have h1 := Int.emod_nonneg (top (dv s) e) (b := (p.maxInt : Int)) (by omega)
      have h2 := Int.emod_lt_of_pos (top (dv s) e) (b := (p.maxInt : Int)) (by omega)
      have hN : sciN p s e = top (dv s) e % p.maxInt + 1 := by unfold sciN; rw [if_pos h]
      refine ⟨?_, by omega, by omega⟩
      unfold sciX
      split
      · exact Int.zero_emod _
      · try rw [if_pos h]
        have hd := Int.emod_add_mul_ediv (top (dv s) e) (p.maxInt : Int)
        rw [show top (dv s) e - top (dv s) e % (p.maxInt : Int) = (p.maxInt : Int) * (top (dv s) e / p.maxInt) by omega, Int.mul_emod_right]
    · have hN : sciN p s e = p.whole := by unfold sciN; rw [if_neg (by simp [h])]
      omega
theorem tz_ge {c k : Nat} (h0 : c ≠ 0) (h : c % 10 ^ k = 0) : k ≤ tz c := by
  obtain ⟨m, hm⟩ := Nat.dvd_of_mod_eq_zero h
  have hm0 : m ≠ 0 := fun e => by rw [e, Nat.mul_zero] at hm; exact h0 hm
  rw [Nat.mul_comm] at hm
  rw [hm, (core_mul10 hm0 k).2]
  omega
theorem plS_place {m : Int} {neg n : Bool} {c q : Nat} {e p E : Int} (h : plS m neg c e p = .ok n q E) (h0 : q ≠ 0) : p ≤ ne q E := by
  unfold plS at h
  split at h
  · cases h
  · split at h
    · rename_i hf
      injection h with e1 e2 e3
      subst e1 e2 e3
      rw [ne_pos h0]
      unfold fits at hf
      simp only [Bool.or_eq_true, decide_eq_true_eq] at hf
      rcases hf with hf | hf
      · omega
      · have := tz_ge h0 hf
        omega
    · split at h
      · cases h
      · injection h with e1 e2 e3
        subst e1 e2 e3
        rw [ne_pos h0]
        omega
theorem inS_place {m : Int} {neg n : Bool} {c b q : Nat} {e p E : Int} (h : inS m neg c e b p = .ok n q E) (h0 : q ≠ 0) : p ≤ ne q E := by
  unfold inS at h
  simp only at h
  generalize hE : (if p < e then p else e) = F at h
  have hF : F ≤ e ∧ F ≤ p ∧ (F = e ∨ F = p) := by rw [← hE]; split <;> omega
  split at h
  · cases h
  · split at h
    · rename_i hz
      injection h with e1 e2 e3
      subst e1 e2 e3
      rw [ne_pos h0]
      rcases hF.2.2 with h5 | h5
      · subst h5
        rw [Int.sub_self, Int.toNat_zero, Nat.pow_zero, Nat.mul_one] at hz
        have := tz_ge (k := (p - F).toNat) h0 (Nat.mod_eq_zero_of_dvd (Nat.dvd_trans (Nat.dvd_mul_left _ _) (Nat.dvd_of_mod_eq_zero hz)))
        omega
      · omega
    · split at h
      · cases h
      · injection h with e1 e2 e3
        subst e1 e2 e3
        rw [ne_pos h0]
        have := tz_ge (k := (p - F).toNat) h0 (by rw [← Nat.mul_assoc]; exact Nat.mul_mod_left _ _)
        omega
theorem shS_place {p : Pat} (hp : p.Ok) {m : Int} {neg n : Bool} {s : List UInt8} {e : Int} {q : Nat} {E : Int} (h : shS p m neg s e = .ok n q E) (h1 : p.sci = false) (h2 : p.minSig = 0) (h0 : q ≠ 0) : -(p.maxFrac : Int) ≤ ne q (E + p.mult) := by
  obtain ⟨_, hr⟩ := shS_ok h
  unfold rdS at hr
  rw [if_neg (by rw [h1]; simp; omega)] at hr
  split at hr
  · exact inS_place hr h0
  · exact plS_place hr h0
theorem value_of {p : Pat} (hp : CmpOk p) {m : Int} {neg n : Bool} {s : List UInt8} {e : Int} {q : Nat} {E : Int} (h : shS p m neg s e = .ok n q E) :
    ∃ (a b : List UInt8) (x : Int), layA n (rawL p (text (core q)) (ne (core q) (ne q E + p.mult))) = .agg [.bool n, .str a, .str b, i64 x] ∧
    a.length < 30000 ∧ b.length < 30000 ∧ (-20100 < x ∧ x < 20100) ∧ a ++ b ≠ [] ∧ dgs (a ++ b) = true ∧
    N n (dv (a ++ b)) (x - b.length - p.mult) = N n q E ∧
    (p.sci = false → x = 0 ∧ p.minInt ≤ a.length ∧ (p.minSig = 0 → p.minFrac ≤ b.length ∧ b.length ≤ p.maxFrac)) ∧
    (p.eng = true → x % p.maxInt = 0 ∧ 1 ≤ a.length ∧ a.length ≤ p.maxInt) ∧
    (p.sci = true → p.eng = false → p.minSig = 0 → a.length = p.whole ∨ a ++ b = [48]) := by
  obtain ⟨hs, hl, he1, he2⟩ := goodD_ok (goodD_of (shS_rngd h))
  have hm := p.mult_le
  have hd : dv (text (core q)) = core q := dv_text _
  have hnd : nd (core q) ≤ 1000 := by have := nd_dv hs.1; rw [hd] at this; omega
  have htz := tz_le (core q)
  obtain ⟨V, hV⟩ : ∃ V, V = ne (core q) (ne q E + p.mult) := ⟨_, rfl⟩
  have hX : -2000 < V ∧ V < 3000 := by rw [hV]; unfold ne at *; split <;> omega
  have hV1 : V = ne q (E + p.mult) := by rw [hV, ne_shift]
  have ht : -20000 < top (dv (text (core q))) V ∧ top (dv (text (core q))) V < 20000 := by rw [hd]; unfold top; split <;> omega
  obtain ⟨N1, B, x, hR, bN, bB, bx, hval, hpl, heng, hwh⟩ := raw_bd hp.ok (s := text (core q)) (e := V) (by omega) ht
  rw [hd] at hval
  rw [← hV, hR]
  have hg1 := span_dgs (e := V) (f := x + N1 - 1) hs.1 N1
  have hg2 := span_dgs (e := V) (f := x - 1) hs.1 B
  have hl1 := spanN_len (text (core q)) V (x + N1 - 1) N1
  have hl2 := spanN_len (text (core q)) V (x - 1) B
  have hadd := span_add (text (core q)) V (x + N1 - 1) N1 B
  rw [show x + (N1 : Int) - 1 - N1 = x - 1 by omega] at hadd
  have hall := span_all (e := V) (f := x + N1 - 1) (n := N1 + B) hs.1 (by rw [hd]; intro h0; have := (hval h0).1; omega) (by rw [hd]; intro h0; exact (hval h0).2)
  rw [hadd, hd, show x + (N1 : Int) - 1 - ((N1 + B : Nat) : Int) + 1 = x - B by omega] at hall
  have hNq : N n (core q * 10 ^ (V - (x - B)).toNat) (x - B - p.mult) = N n q E := by
    by_cases h0 : q = 0
    · subst h0; rw [core_zero, Nat.zero_mul, N_zero, N_zero]
    · have hb := (hval (core_ne h0)).1
      unfold N
      rw [core_mul10', core_core, ne_mul10]
      congr 1
      rw [show x - (B : Int) - p.mult + ((V - (x - B)).toNat : Int) = V - p.mult by omega, hV1]
      have h2 : ne q (E + p.mult) - p.mult = ne q E := by rw [ne_pos h0, ne_pos h0]; omega
      rw [h2, ne_core]
  have hplace : p.sci = false → p.minSig = 0 → core q ≠ 0 → -(p.maxFrac : Int) ≤ V := fun g1 g2 g3 => by
    rw [hV1]; exact shS_place hp.ok h g1 g2 (fun e => g3 (by rw [e, core_zero]))
  have hBm : p.sci = false → p.minSig = 0 → B ≤ p.maxFrac := fun g1 g2 => by
    have h3 := (hpl g1).2.2
    have hc := hp.ok.cnt
    have h4 := hplace g1 g2
    unfold plainB imax fineS at h3
    rw [if_neg (by omega : ¬ 0 < p.minSig), hd] at h3
    by_cases h0 : core q = 0
    · rw [if_pos h0] at h3
      split at h3 <;> omega
    · rw [if_neg h0] at h3
      have := h4 h0
      split at h3 <;> split at h3 <;> omega
  unfold layA shA
  simp only
  generalize spanN (text (core q)) V (x + N1 - 1) N1 = a at *
  generalize spanN (text (core q)) V (x - 1) B = b at *
  have hcN : p.minSig ≠ 0 → p.minInt = 0 := fun g => (hp.sig (by omega)).1
  by_cases he : a ++ b = []
  · have hab := List.append_eq_nil_iff.1 he
    have hN0 : N1 = 0 := by rw [← hl1, hab.1]; rfl
    have hB0 : B = 0 := by rw [← hl2, hab.2]; rfl
    rw [if_pos he]
    refine ⟨[48], b, x, rfl, by simp, by omega, bx, by simp, ?_, ?_, ?_, ?_, ?_⟩
    · rw [hab.2]; rfl
    · rw [he] at hall
      rw [hab.2, hB0] at *
      rw [← hNq, ← hall]
      rfl
    · intro g1
      obtain ⟨g2, g3, _⟩ := hpl g1
      refine ⟨g2, ?_, fun g4 => ⟨?_, ?_⟩⟩
      · by_cases g5 : p.minSig = 0
        · have := (g3 g5).1; omega
        · have := hcN g5; omega
      · have := (g3 g4).2; omega
      · have := hBm g1 g4; omega
    · intro g1
      have := heng g1
      omega
    · intro _ _ _
      right
      rw [hab.2]; rfl
  · rw [if_neg he]
    refine ⟨a, b, x, rfl, by omega, by omega, bx, he, dgs_append.2 ⟨hg1, hg2⟩, ?_, ?_, ?_, ?_⟩
    · rw [hall, hl2, hNq]
    · intro g1
      obtain ⟨g2, g3, _⟩ := hpl g1
      refine ⟨g2, ?_, fun g4 => ⟨?_, ?_⟩⟩
      · by_cases g5 : p.minSig = 0
        · have := (g3 g5).1; omega
        · have := hcN g5; omega
      · have := (g3 g4).2; omega
      · have := hBm g1 g4; omega
    · intro g1
      have := heng g1
      omega
    · intro g1 g2 _
      left
      have := hwh g1 g2
      omega
end Go.Proofs.YtgehlcgjchfibaaGreatDoor.F
namespace Go.Proofs.YtgehlcgjchfibaaGreatDoor.F
open Go Go.RowKit Go.Proofs
theorem eqZ (a : Nat) : ((a : Int) == a) = true := beq_self_eq_true _
section
variable {n : Bool} {a b al : List UInt8} {x : Int} {t : List (Nat × AV)} {o : List (Nat × Ob)} {p : Pat}
theorem v1 (hp : p.Ok) (h7 : look t 7 = some (.box 7 0)) (h11 : look t 11 = some (.box 11 0)) (h12 : look t 12 = some (.str al))
    (o7 : look o 7 = some (.box 26 (avCells p.av))) (o11 : look o 11 = some (.box 39 [.bool n, .str a, .str b, i64 x]))
    (hF : p.sci = true → p.eng = false → p.minSig = 0 → a.length = p.whole ∨ al = [48]) : VC e0 ic9_1 (retQ [(6, none)] (.bool true)) ⟨t, o⟩ := by
  have c18 := con18
  have c27 := con27 p
  have c29 := con29 hp
  rw [wholeR_eq] at c29
  cases h1 : p.sci with
  | false =>
    simp only [Pat.av, items, avCells, h1] at o7
    simp only [ic9_1, wkA, Nat.reduceEqDiff, Nat.reduceAdd, Nat.reduceSub, Nat.reduceLeDiff, Nat.reduceLT, Nat.reduceBEq, Nat.reduceBNe, reduceCtorEq, h7, h11, h12, o7, o11]
    refine callFD c18 rfl ?_
    simp only [wkA, Nat.reduceEqDiff, Nat.reduceAdd, Nat.reduceSub, Nat.reduceLeDiff, Nat.reduceLT, Nat.reduceBEq, Nat.reduceBNe, reduceCtorEq, h7, h11, h12, o7, o11, Bool.not_false]
  | true =>
    simp only [Pat.av, items, avCells, h1] at o7 c27 c29
    cases hE : p.eng with
    | true =>
      rw [hE] at c27
      simp only [ic9_1, wkA, Nat.reduceEqDiff, Nat.reduceAdd, Nat.reduceSub, Nat.reduceLeDiff, Nat.reduceLT, Nat.reduceBEq, Nat.reduceBNe, reduceCtorEq, h7, h11, h12, o7, o11]
      refine callFD c18 rfl ?_
      simp only [wkA, Nat.reduceEqDiff, Nat.reduceAdd, Nat.reduceSub, Nat.reduceLeDiff, Nat.reduceLT, Nat.reduceBEq, Nat.reduceBNe, reduceCtorEq, h7, h11, h12, o7, o11, Bool.not_true]
      refine callFD c27 rfl ?_
      simp only [wkA, Nat.reduceEqDiff, Nat.reduceAdd, Nat.reduceSub, Nat.reduceLeDiff, Nat.reduceLT, Nat.reduceBEq, Nat.reduceBNe, reduceCtorEq, h7, h11, h12, o7, o11]
    | false =>
      rw [hE] at c27
      by_cases h2 : 0 < p.minSig
      · have e1 : decide ((p.minSig : Int) > 0) = true := decide_eq_true (by omega)
        simp only [ic9_1, wkA, Nat.reduceEqDiff, Nat.reduceAdd, Nat.reduceSub, Nat.reduceLeDiff, Nat.reduceLT, Nat.reduceBEq, Nat.reduceBNe, reduceCtorEq, h7, h11, h12, o7, o11]
        refine callFD c18 rfl ?_
        simp only [wkA, Nat.reduceEqDiff, Nat.reduceAdd, Nat.reduceSub, Nat.reduceLeDiff, Nat.reduceLT, Nat.reduceBEq, Nat.reduceBNe, reduceCtorEq, h7, h11, h12, o7, o11, Bool.not_true]
        refine callFD c27 rfl ?_
        simp only [wkA, Nat.reduceEqDiff, Nat.reduceAdd, Nat.reduceSub, Nat.reduceLeDiff, Nat.reduceLT, Nat.reduceBEq, Nat.reduceBNe, reduceCtorEq, h7, h11, h12, o7, o11, e1]
      · have e1 : decide ((p.minSig : Int) > 0) = false := decide_eq_false (by omega)
        by_cases h3 : a.length = p.whole
        · have e2 : ((a.length : Int) == (p.whole : Int)) = true := by rw [h3]; exact eqZ _
          simp only [ic9_1, wkA, Nat.reduceEqDiff, Nat.reduceAdd, Nat.reduceSub, Nat.reduceLeDiff, Nat.reduceLT, Nat.reduceBEq, Nat.reduceBNe, reduceCtorEq, h7, h11, h12, o7, o11]
          refine callFD c18 rfl ?_
          simp only [wkA, Nat.reduceEqDiff, Nat.reduceAdd, Nat.reduceSub, Nat.reduceLeDiff, Nat.reduceLT, Nat.reduceBEq, Nat.reduceBNe, reduceCtorEq, h7, h11, h12, o7, o11, Bool.not_true]
          refine callFD c27 rfl ?_
          simp only [wkA, Nat.reduceEqDiff, Nat.reduceAdd, Nat.reduceSub, Nat.reduceLeDiff, Nat.reduceLT, Nat.reduceBEq, Nat.reduceBNe, reduceCtorEq, h7, h11, h12, o7, o11, e1]
          refine callFD c29 rfl ?_
          simp only [wkA, Nat.reduceEqDiff, Nat.reduceAdd, Nat.reduceSub, Nat.reduceLeDiff, Nat.reduceLT, Nat.reduceBEq, Nat.reduceBNe, reduceCtorEq, h7, h11, h12, o7, o11, e2]
        · have e2 : ((a.length : Int) == (p.whole : Int)) = false := by rw [beq_eq_false_iff_ne]; omega
          have h4 : al = [48] := (hF h1 hE (by omega)).resolve_left h3
          have e3 : (al == [48]) = true := by rw [h4]; rfl
          simp only [ic9_1, wkA, Nat.reduceEqDiff, Nat.reduceAdd, Nat.reduceSub, Nat.reduceLeDiff, Nat.reduceLT, Nat.reduceBEq, Nat.reduceBNe, reduceCtorEq, h7, h11, h12, o7, o11]
          refine callFD c18 rfl ?_
          simp only [wkA, Nat.reduceEqDiff, Nat.reduceAdd, Nat.reduceSub, Nat.reduceLeDiff, Nat.reduceLT, Nat.reduceBEq, Nat.reduceBNe, reduceCtorEq, h7, h11, h12, o7, o11, Bool.not_true]
          refine callFD c27 rfl ?_
          simp only [wkA, Nat.reduceEqDiff, Nat.reduceAdd, Nat.reduceSub, Nat.reduceLeDiff, Nat.reduceLT, Nat.reduceBEq, Nat.reduceBNe, reduceCtorEq, h7, h11, h12, o7, o11, e1]
          refine callFD c29 rfl ?_
          simp only [wkA, Nat.reduceEqDiff, Nat.reduceAdd, Nat.reduceSub, Nat.reduceLeDiff, Nat.reduceLT, Nat.reduceBEq, Nat.reduceBNe, reduceCtorEq, h7, h11, h12, o7, o11, e2, e3]
theorem v2 (hp : p.Ok) (h7 : look t 7 = some (.box 7 0)) (h11 : look t 11 = some (.box 11 0)) (h12 : look t 12 = some (.str al))
    (o7 : look o 7 = some (.box 26 (avCells p.av))) (o11 : look o 11 = some (.box 39 [.bool n, .str a, .str b, i64 x]))
    (hE : p.eng = true → x % p.maxInt = 0 ∧ 1 ≤ a.length ∧ a.length ≤ p.maxInt)
    (hF : p.sci = true → p.eng = false → p.minSig = 0 → a.length = p.whole ∨ al = [48]) : VC e0 ic9_2 (retQ [(6, none)] (.bool true)) ⟨t, o⟩ := by
  have c27 := con27 p
  have o7' := o7
  simp only [Pat.av, items, avCells] at o7 c27
  cases h1 : p.eng with
  | false =>
    rw [h1] at c27
    simp only [ic9_2, wkA, Nat.reduceEqDiff, Nat.reduceAdd, Nat.reduceSub, Nat.reduceLeDiff, Nat.reduceLT, Nat.reduceBEq, Nat.reduceBNe, reduceCtorEq, h7, h11, h12, o7, o11]
    refine callF c27 rfl ?_
    simp only [wkA, Nat.reduceEqDiff, Nat.reduceAdd, Nat.reduceSub, Nat.reduceLeDiff, Nat.reduceLT, Nat.reduceBEq, Nat.reduceBNe, reduceCtorEq, h7, h11, h12, o7, o11]
    exact v1 hp rfl rfl rfl rfl rfl hF
  | true =>
    rw [h1] at c27
    obtain ⟨h2, h3, h4⟩ := hE h1
    have hm := eng_max h1
    have e1 : (x.tmod (p.maxInt : Int) != 0) = false := by rw [tmod_beq, h2]; rfl
    have e2 : decide ((a.length : Int) > (p.maxInt : Int)) = false := decide_eq_false (by omega)
    have e3 : decide ((a.length : Int) < 1) = false := decide_eq_false (by omega)
    have hne : ¬ (p.maxInt : Int) = 0 := by omega
    simp only [ic9_2, wkA, Nat.reduceEqDiff, Nat.reduceAdd, Nat.reduceSub, Nat.reduceLeDiff, Nat.reduceLT, Nat.reduceBEq, Nat.reduceBNe, reduceCtorEq, h7, h11, h12, o7, o11]
    refine callF c27 rfl ?_
    simp only [wkA, Nat.reduceEqDiff, Nat.reduceAdd, Nat.reduceSub, Nat.reduceLeDiff, Nat.reduceLT, Nat.reduceBEq, Nat.reduceBNe, reduceCtorEq, h7, h11, h12, o7, o11, e1, e2, e3]
    refine ⟨hne, ?_⟩
    exact v1 hp rfl rfl rfl rfl rfl hF
end
theorem con9 (s : List UInt8) (m : Int) (d : Dm) (hs : s.length < 1099511627776) (hd : d.s.length < 1099511627776) : Fn 9 [.str s, i64 m, d.av] (.bool true) := by
  have c17 := con17 (d := d) hs hd
  have c18 := con18
  have hp := cmpP_ok s
  generalize (patG s && Dm.in19 d) = g at c17
  generalize cmpP s = p at *
  have c23 := con23 hp.ok
  have c19 := con19 hp.ok (m := m) (neg := d.neg) (s := d.s) (e := d.e) hd
  refine e9 (by simp) ?_
  cases g with
  | false =>
    simp only [Pat.av, items, Dm.av, D] at c17
    simp only [ic9, D, Dm.av, wkA, Nat.reduceEqDiff, Nat.reduceAdd, Nat.reduceSub, Nat.reduceLeDiff, Nat.reduceLT, Nat.reduceBEq, Nat.reduceBNe, reduceCtorEq]
    refine callF c17 rfl ?_
    simp only [wkA, Nat.reduceEqDiff, Nat.reduceAdd, Nat.reduceSub, Nat.reduceLeDiff, Nat.reduceLT, Nat.reduceBEq, Nat.reduceBNe, reduceCtorEq, Bool.not_false]
    refine callF c18 rfl ?_
    simp only [wkA, Nat.reduceEqDiff, Nat.reduceAdd, Nat.reduceSub, Nat.reduceLeDiff, Nat.reduceLT, Nat.reduceBEq, Nat.reduceBNe, reduceCtorEq]
  | true =>
    cases hx : shS p m d.neg d.s d.e with
    | err k =>
      have hk := shS_err hx
      have ek : (k != 0) = true := by simp [hk]
      rw [hx] at c19
      simp only [Pat.av, items, Dm.av, D] at c17 c19
      simp only [Rs.av, zD, D] at c19
      simp only [ic9, D, Dm.av, wkA, Nat.reduceEqDiff, Nat.reduceAdd, Nat.reduceSub, Nat.reduceLeDiff, Nat.reduceLT, Nat.reduceBEq, Nat.reduceBNe, reduceCtorEq]
      refine callF c17 rfl ?_
      simp only [wkA, Nat.reduceEqDiff, Nat.reduceAdd, Nat.reduceSub, Nat.reduceLeDiff, Nat.reduceLT, Nat.reduceBEq, Nat.reduceBNe, reduceCtorEq, Bool.not_true]
      simp only [ic9_4, wkA, Nat.reduceEqDiff, Nat.reduceAdd, Nat.reduceSub, Nat.reduceLeDiff, Nat.reduceLT, Nat.reduceBEq, Nat.reduceBNe, reduceCtorEq]
      refine callF c19 rfl ?_
      simp only [wkA, Nat.reduceEqDiff, Nat.reduceAdd, Nat.reduceSub, Nat.reduceLeDiff, Nat.reduceLT, Nat.reduceBEq, Nat.reduceBNe, reduceCtorEq, ek]
      refine callF c18 rfl ?_
      simp only [wkA, Nat.reduceEqDiff, Nat.reduceAdd, Nat.reduceSub, Nat.reduceLeDiff, Nat.reduceLT, Nat.reduceBEq, Nat.reduceBNe, reduceCtorEq]
    | ok n q E =>
      obtain ⟨c20, _, _⟩ := lays hp hx
      obtain ⟨a, b, x, hL, la, lb, bx, hne, hdg, hN, hpl, heng, hwh⟩ := value_of hp hx
      rw [hL] at c20
      rw [hx] at c19
      have hm := p.mult_le
      have hg := goodD_ok (goodD_of (shS_rngd hx))
      have c28 := con28 (neg := n) (s := a ++ b) (e := x - b.length - p.mult) ⟨by simp only [dgs, List.all_cons]; exact hdg, by simp, by simp only [List.length_cons, List.length_append]; omega, by omega, by omega⟩
      rw [hN] at c28
      have z0 : ((0 : Int) != 0) = false := rfl
      have z1 : (a ++ b == []) = false := by rw [strBeq]; exact decide_eq_false hne
      have w1 : IntKind.i64.wrap (x - (b.length : Int)) = x - b.length := by rw [wrap64] <;> omega
      have w2 : IntKind.i64.wrap (x - (b.length : Int) - (p.mult : Int)) = x - b.length - p.mult := by rw [wrap64] <;> omega
      generalize p.mult = mu at *
      simp only [N] at c20 c28
      simp only [Rs.av, N] at c19
      generalize text (core q) = T at *
      generalize ne q E = X at *
      have hlen : (a ++ b).length = a.length + b.length := List.length_append
      cases h1 : p.sci with
      | true =>
        have hav : avCells p.av = avCells p.av := rfl
        conv at hav => lhs; simp only [Pat.av, items, avCells, h1]
        simp only [D, Dm.av, Pat.av, items, h1] at c17 c19 c20 c23 c28
        simp only [ic9, D, Dm.av, wkA, Nat.reduceEqDiff, Nat.reduceAdd, Nat.reduceSub, Nat.reduceLeDiff, Nat.reduceLT, Nat.reduceBEq, Nat.reduceBNe, reduceCtorEq]
        refine callF c17 rfl ?_
        simp only [wkA, Nat.reduceEqDiff, Nat.reduceAdd, Nat.reduceSub, Nat.reduceLeDiff, Nat.reduceLT, Nat.reduceBEq, Nat.reduceBNe, reduceCtorEq, Bool.not_true]
        simp only [ic9_4, wkA, Nat.reduceEqDiff, Nat.reduceAdd, Nat.reduceSub, Nat.reduceLeDiff, Nat.reduceLT, Nat.reduceBEq, Nat.reduceBNe, reduceCtorEq]
        refine callF c19 rfl ?_
        simp only [wkA, Nat.reduceEqDiff, Nat.reduceAdd, Nat.reduceSub, Nat.reduceLeDiff, Nat.reduceLT, Nat.reduceBEq, Nat.reduceBNe, reduceCtorEq, z0]
        simp only [ic9_3, wkA, Nat.reduceEqDiff, Nat.reduceAdd, Nat.reduceSub, Nat.reduceLeDiff, Nat.reduceLT, Nat.reduceBEq, Nat.reduceBNe, reduceCtorEq]
        refine callF c20 rfl ?_
        simp only [wkA, Nat.reduceEqDiff, Nat.reduceAdd, Nat.reduceSub, Nat.reduceLeDiff, Nat.reduceLT, Nat.reduceBEq, Nat.reduceBNe, reduceCtorEq]
        refine ⟨by omega, ?_⟩
        simp only [w1]
        refine callFD c23 rfl ?_
        simp only [wkA, Nat.reduceEqDiff, Nat.reduceAdd, Nat.reduceSub, Nat.reduceLeDiff, Nat.reduceLT, Nat.reduceBEq, Nat.reduceBNe, reduceCtorEq, w1, w2]
        refine callFD c28 rfl ?_
        by_cases d1 : a.length < p.minInt
        · have e1 : decide ((a.length : Int) < (p.minInt : Int)) = true := decide_eq_true (by omega)
          by_cases d2 : p.minSig = 0
          · have e2 : ((p.minSig : Int) == 0) = true := by rw [d2]; rfl
            simp only [wkA, Nat.reduceEqDiff, Nat.reduceAdd, Nat.reduceSub, Nat.reduceLeDiff, Nat.reduceLT, Nat.reduceBEq, Nat.reduceBNe, reduceCtorEq, binV, eqD, ckind, z1, e1, e2, Bool.not_true]
            exact v2 hp.ok rfl rfl rfl (by rw [← hav]; rfl) rfl heng hwh
          · have e2 : ((p.minSig : Int) == 0) = false := by rw [beq_eq_false_iff_ne]; omega
            simp only [wkA, Nat.reduceEqDiff, Nat.reduceAdd, Nat.reduceSub, Nat.reduceLeDiff, Nat.reduceLT, Nat.reduceBEq, Nat.reduceBNe, reduceCtorEq, binV, eqD, ckind, z1, e1, e2, Bool.not_true]
            exact v2 hp.ok rfl rfl rfl (by rw [← hav]; rfl) rfl heng hwh
        · have e1 : decide ((a.length : Int) < (p.minInt : Int)) = false := decide_eq_false (by omega)
          by_cases d2 : p.minSig = 0
          · have e2 : ((p.minSig : Int) == 0) = true := by rw [d2]; rfl
            simp only [wkA, Nat.reduceEqDiff, Nat.reduceAdd, Nat.reduceSub, Nat.reduceLeDiff, Nat.reduceLT, Nat.reduceBEq, Nat.reduceBNe, reduceCtorEq, binV, eqD, ckind, z1, e1, e2, Bool.not_true]
            exact v2 hp.ok rfl rfl rfl (by rw [← hav]; rfl) rfl heng hwh
          · have e2 : ((p.minSig : Int) == 0) = false := by rw [beq_eq_false_iff_ne]; omega
            simp only [wkA, Nat.reduceEqDiff, Nat.reduceAdd, Nat.reduceSub, Nat.reduceLeDiff, Nat.reduceLT, Nat.reduceBEq, Nat.reduceBNe, reduceCtorEq, binV, eqD, ckind, z1, e1, e2, Bool.not_true]
            exact v2 hp.ok rfl rfl rfl (by rw [← hav]; rfl) rfl heng hwh
      | false =>
        obtain ⟨rfl, hpi, hpf⟩ := hpl h1
        have e1 : decide ((a.length : Int) < (p.minInt : Int)) = false := decide_eq_false (by omega)
        have hav : avCells p.av = avCells p.av := rfl
        conv at hav => lhs; simp only [Pat.av, items, avCells, h1]
        simp only [D, Dm.av, Pat.av, items, h1] at c17 c19 c20 c23 c28
        simp only [ic9, D, Dm.av, wkA, Nat.reduceEqDiff, Nat.reduceAdd, Nat.reduceSub, Nat.reduceLeDiff, Nat.reduceLT, Nat.reduceBEq, Nat.reduceBNe, reduceCtorEq]
        refine callF c17 rfl ?_
        simp only [wkA, Nat.reduceEqDiff, Nat.reduceAdd, Nat.reduceSub, Nat.reduceLeDiff, Nat.reduceLT, Nat.reduceBEq, Nat.reduceBNe, reduceCtorEq, Bool.not_true]
        simp only [ic9_4, wkA, Nat.reduceEqDiff, Nat.reduceAdd, Nat.reduceSub, Nat.reduceLeDiff, Nat.reduceLT, Nat.reduceBEq, Nat.reduceBNe, reduceCtorEq]
        refine callF c19 rfl ?_
        simp only [wkA, Nat.reduceEqDiff, Nat.reduceAdd, Nat.reduceSub, Nat.reduceLeDiff, Nat.reduceLT, Nat.reduceBEq, Nat.reduceBNe, reduceCtorEq, z0]
        simp only [ic9_3, wkA, Nat.reduceEqDiff, Nat.reduceAdd, Nat.reduceSub, Nat.reduceLeDiff, Nat.reduceLT, Nat.reduceBEq, Nat.reduceBNe, reduceCtorEq]
        refine callF c20 rfl ?_
        simp only [wkA, Nat.reduceEqDiff, Nat.reduceAdd, Nat.reduceSub, Nat.reduceLeDiff, Nat.reduceLT, Nat.reduceBEq, Nat.reduceBNe, reduceCtorEq]
        refine ⟨by omega, ?_⟩
        simp only [w1]
        refine callFD c23 rfl ?_
        simp only [wkA, Nat.reduceEqDiff, Nat.reduceAdd, Nat.reduceSub, Nat.reduceLeDiff, Nat.reduceLT, Nat.reduceBEq, Nat.reduceBNe, reduceCtorEq, w1, w2]
        refine callFD c28 rfl ?_
        by_cases d2 : p.minSig = 0
        · have e2 : ((p.minSig : Int) == 0) = true := by rw [d2]; rfl
          obtain ⟨f1, f2⟩ := hpf d2
          have e3 : decide ((b.length : Int) < (p.minFrac : Int)) = false := decide_eq_false (by omega)
          have e4 : decide ((b.length : Int) > (p.maxFrac : Int)) = false := decide_eq_false (by omega)
          simp only [wkA, Nat.reduceEqDiff, Nat.reduceAdd, Nat.reduceSub, Nat.reduceLeDiff, Nat.reduceLT, Nat.reduceBEq, Nat.reduceBNe, reduceCtorEq, binV, eqD, ckind, z0, z1, e1, e2, e3, e4, Bool.not_false, Bool.not_true]
          exact v2 hp.ok rfl rfl rfl (by rw [← hav]; rfl) rfl heng hwh
        · have e2 : ((p.minSig : Int) == 0) = false := by rw [beq_eq_false_iff_ne]; omega
          simp only [wkA, Nat.reduceEqDiff, Nat.reduceAdd, Nat.reduceSub, Nat.reduceLeDiff, Nat.reduceLT, Nat.reduceBEq, Nat.reduceBNe, reduceCtorEq, binV, eqD, ckind, z0, z1, e1, e2, Bool.not_false, Bool.not_true]
          exact v2 hp.ok rfl rfl rfl (by rw [← hav]; rfl) rfl heng hwh
end Go.Proofs.YtgehlcgjchfibaaGreatDoor.F
