/-
  What the functions that the laws call compute, for every input that the statements allow (part 7): for the claims up to a bulk of 1048576.
-/
import Derived.Test.YtgehlcgjchfibaaGreatDoorX06
set_option maxRecDepth 100000
set_option linter.unusedVariables false
set_option linter.unusedSimpArgs false
set_option linter.defProp false
set_option maxHeartbeats 4000000
namespace Go.Proofs.YtgehlcgjchfibaaGreatDoor.F
open Go Go.RowKit Go.Proofs

abbrev szN (sizes : List Nat) : Nat × Ob := (139, .row 3 1 (sizes.map fun (n : Nat) => i64 n))
abbrev tmN (p : Pat) (sizes : List Nat) (plain : List UInt8) : List (Nat × AV) := [(2, .box 2 0), (4, .box 4 0), (7, .bool p.sci), (13, n64 sizes), (14, .str plain)]
theorem take_succ8 {s : List UInt8} {i : Nat} (h : i < s.length) : s.take (i + 1) = s.take i ++ [s.getD i 0] := by
  rw [List.take_add_one]; simp [List.getD_eq_getElem?_getD, h]
def I20 (p : Pat) (sizes : List Nat) (plain all : List UInt8) (j : Nat) (st : St) : Prop := ∃ i : Nat, j = all.length - i ∧ i ≤ all.length ∧ st = ⟨tmN p sizes plain ++ [(18, .str all), (19, .str (incN (all.take i))), (20, i64 i)], obN p⟩
theorem seg22 (p : Pat) (sizes : List Nat) (plain digits : List UInt8) (ex : List UInt8 × List (Nat × AV)) (hs : sizes.length < 1000000) (hd : digits.length < 1000000) (hsig : p.minSig = 0) :
    VC e0 ic90_22 (thenQ (VC e0 ic90_29 (qN (aftN p sizes plain digits))) (qN (aftN p sizes plain digits))) ⟨(2, .box 2 0) :: (4, .box 4 0) :: (7, .bool p.sci) :: (13, n64 sizes) :: (14, .str plain) :: (18, .str ex.1) :: (19, .str digits) :: ex.2, obN p⟩ := by
  have c117 := con117 digits (by omega)
  have e1 : (strip digits != []) = decide (strip digits ≠ []) := by rw [Bool.eq_iff_iff, bne_iff_ne, decide_eq_true_eq]
  have e2 : decide ((p.minFrac : Int) < (p.maxFrac : Int)) = decide (p.minFrac < p.maxFrac) := by rw [decide_eq_decide]; omega
  have fin := fun ex => seg29 { p with inc := strip digits, maxInt := if p.sci = true then plain.length else p.maxInt } sizes plain (by intro h; simp only at h; omega) hs ex
  have go : ∀ (b : Bool), (aftN p sizes plain digits = mixN { p with inc := strip digits, maxInt := if p.sci = true then plain.length else p.maxInt } sizes plain) →
      VC e0 ic90_21 (thenQ (VC e0 ic90_29 (qN (aftN p sizes plain digits))) (qN (aftN p sizes plain digits))) ⟨[(2, .box 2 0), (4, .box 4 0), (7, .bool p.sci), (13, n64 sizes), (14, .str plain), (272, .bool b)], obN { p with inc := strip digits }⟩ := by
    intro b hres
    rw [hres]
    cases h1 : p.sci with
    | false =>
      rw [h1, if_neg (by simp)] at fin
      rw [if_neg (by simp)]
      simp only [obN, n64, Pat.av, Pat.zero, items, wkA, Nat.reduceEqDiff, Nat.reduceAdd, Nat.reduceSub, Nat.reduceLeDiff, Nat.reduceLT, Nat.reduceBEq, Nat.reduceBNe, reduceCtorEq, h1] at fin
      simp only [ic90_21, obN, n64, Pat.av, Pat.zero, items, wkA, Nat.reduceEqDiff, Nat.reduceAdd, Nat.reduceSub, Nat.reduceLeDiff, Nat.reduceLT, Nat.reduceBEq, Nat.reduceBNe, reduceCtorEq, h1]
      exact fin _
    | true =>
      have f := fin []
      rw [h1, if_pos rfl] at f
      rw [if_pos rfl]
      simp only [obN, n64, Pat.av, Pat.zero, items, wkA, Nat.reduceEqDiff, Nat.reduceAdd, Nat.reduceSub, Nat.reduceLeDiff, Nat.reduceLT, Nat.reduceBEq, Nat.reduceBNe, reduceCtorEq, h1] at f
      simp only [ic90_21, obN, n64, Pat.av, Pat.zero, items, wkA, Nat.reduceEqDiff, Nat.reduceAdd, Nat.reduceSub, Nat.reduceLeDiff, Nat.reduceLT, Nat.reduceBEq, Nat.reduceBNe, reduceCtorEq, h1]
      exact f
  cases h1 : decide (strip digits ≠ []) with
  | false =>
    rw [h1] at e1
    have g := go false (by rw [aftN, if_neg]; rintro ⟨h, _⟩; simp at h1; exact h h1)
    simp only [obN, n64, Pat.av, Pat.zero, items, wkA, Nat.reduceEqDiff, Nat.reduceAdd, Nat.reduceSub, Nat.reduceLeDiff, Nat.reduceLT, Nat.reduceBEq, Nat.reduceBNe, reduceCtorEq] at g
    simp only [ic90_22, obN, n64, Pat.av, Pat.zero, items, wkA, Nat.reduceEqDiff, Nat.reduceAdd, Nat.reduceSub, Nat.reduceLeDiff, Nat.reduceLT, Nat.reduceBEq, Nat.reduceBNe, reduceCtorEq]
    refine callF c117 rfl ?_
    simp only [wkA, Nat.reduceEqDiff, Nat.reduceAdd, Nat.reduceSub, Nat.reduceLeDiff, Nat.reduceLT, Nat.reduceBEq, Nat.reduceBNe, reduceCtorEq, e1]
    exact g
  | true =>
    rw [h1] at e1
    have h1' : strip digits ≠ [] := by simpa using h1
    cases h2 : decide (p.minFrac < p.maxFrac) with
    | true =>
      rw [h2] at e2
      have hres : aftN p sizes plain digits = .error 6 := by rw [aftN, if_pos ⟨h1', .inl (by simpa using h2)⟩]
      rw [hres]
      simp only [ic90_22, obN, n64, Pat.av, Pat.zero, items, wkA, Nat.reduceEqDiff, Nat.reduceAdd, Nat.reduceSub, Nat.reduceLeDiff, Nat.reduceLT, Nat.reduceBEq, Nat.reduceBNe, reduceCtorEq]
      refine callF c117 rfl ?_
      simp only [wkA, Nat.reduceEqDiff, Nat.reduceAdd, Nat.reduceSub, Nat.reduceLeDiff, Nat.reduceLT, Nat.reduceBEq, Nat.reduceBNe, reduceCtorEq, e1, e2]
      rfl
    | false =>
      rw [h2] at e2
      cases h3 : p.sci with
      | true =>
        have hres : aftN p sizes plain digits = .error 6 := by rw [aftN, if_pos ⟨h1', .inr h3⟩]
        rw [hres]
        simp only [ic90_22, obN, n64, Pat.av, Pat.zero, items, wkA, Nat.reduceEqDiff, Nat.reduceAdd, Nat.reduceSub, Nat.reduceLeDiff, Nat.reduceLT, Nat.reduceBEq, Nat.reduceBNe, reduceCtorEq]
        refine callF c117 rfl ?_
        simp only [wkA, Nat.reduceEqDiff, Nat.reduceAdd, Nat.reduceSub, Nat.reduceLeDiff, Nat.reduceLT, Nat.reduceBEq, Nat.reduceBNe, reduceCtorEq, e1, e2, h3]
        rfl
      | false =>
        have g := go false (by
          rw [aftN, if_neg]
          rintro ⟨_, h | h⟩
          · simp at h2; omega
          · rw [h3] at h; simp at h)
        simp only [obN, n64, Pat.av, Pat.zero, items, wkA, Nat.reduceEqDiff, Nat.reduceAdd, Nat.reduceSub, Nat.reduceLeDiff, Nat.reduceLT, Nat.reduceBEq, Nat.reduceBNe, reduceCtorEq, h3] at g
        simp only [ic90_22, obN, n64, Pat.av, Pat.zero, items, wkA, Nat.reduceEqDiff, Nat.reduceAdd, Nat.reduceSub, Nat.reduceLeDiff, Nat.reduceLT, Nat.reduceBEq, Nat.reduceBNe, reduceCtorEq]
        refine callF c117 rfl ?_
        simp only [wkA, Nat.reduceEqDiff, Nat.reduceAdd, Nat.reduceSub, Nat.reduceLeDiff, Nat.reduceLT, Nat.reduceBEq, Nat.reduceBNe, reduceCtorEq, e1, e2, h3]
        exact g

theorem seg23 (p : Pat) (sizes : List Nat) (plain fraction all : List UInt8) (ex : List (Nat × AV)) (hs : sizes.length < 1000000) (hp : plain.length < 1000000) (hf : fraction.length < 1000000) (ha : all.length < 1000000) (hsig : p.minSig = 0) (R : Except Int Pat)
    (hR : R = aftN { p with minInt := countS plain 48, minFrac := countS fraction 48, maxFrac := fraction.length } sizes plain (incN all)) :
    VC e0 ic90_23 (thenQ (VC e0 ic90_29 (qN R)) (qN R)) ⟨(2, .box 2 0) :: (4, .box 4 0) :: (7, .bool p.sci) :: (11, .str fraction) :: (13, n64 sizes) :: (14, .str plain) :: (18, .str all) :: ex, obN p⟩ := by
  have c1 := con118 plain 48 (by omega)
  have c2 := con118 fraction 48 (by omega)
  have h48 : (((48 : UInt8).toNat : Nat) : Int) = 48 := rfl
  rw [h48] at c1 c2
  simp only [ic90_23, obN, n64, Pat.av, Pat.zero, items, wkA, Nat.reduceEqDiff, Nat.reduceAdd, Nat.reduceSub, Nat.reduceLeDiff, Nat.reduceLT, Nat.reduceBEq, Nat.reduceBNe, reduceCtorEq]
  refine callF c1 rfl ?_
  simp only [wkA, Nat.reduceEqDiff, Nat.reduceAdd, Nat.reduceSub, Nat.reduceLeDiff, Nat.reduceLT, Nat.reduceBEq, Nat.reduceBNe, reduceCtorEq]
  refine callF c2 rfl ?_
  simp only [wkA, Nat.reduceEqDiff, Nat.reduceAdd, Nat.reduceSub, Nat.reduceLeDiff, Nat.reduceLT, Nat.reduceBEq, Nat.reduceBNe, reduceCtorEq]
  refine ⟨I20 { p with minInt := countS plain 48, minFrac := countS fraction 48, maxFrac := fraction.length } sizes plain all, all.length, _, Gh.refl _, ⟨0, rfl, by omega, rfl⟩, ?_⟩
  rintro j st ⟨i, rfl, hi, rfl⟩
  by_cases hlt : i < all.length
  · have e0 : decide ((i : Int) < (all.length : Int)) = true := decide_eq_true (by omega)
    have w1 : IntKind.i64.wrap ((i : Int) + 1) = ((i + 1 : Nat) : Int) := by rw [wrap64] <;> omega
    have hx : ((((all.getD i 0).toNat : Nat) : Int) != 35) = (all.getD i 0 != 35) := by
      have := beq8 (all.getD i 0) 35
      rw [bne, bne]; exact congrArg (!·) this
    have htk : (all.drop i).take (i + 1 - i) = [all.getD i 0] := by rw [drop_get hlt]; simp
    have hil : (incN (all.take i)).length ≤ i := by
      refine Nat.le_trans (List.length_filter_le _ _) ?_
      simp; omega
    have hinc : incN (all.take (i + 1)) = incN (all.take i) ++ (if (all.getD i 0 != 35) = true then [all.getD i 0] else []) := by
      rw [take_succ8 hlt, incN, List.filter_append]
      congr 1
      rw [List.filter_cons, List.filter_nil]
    cases h1 : (all.getD i 0 != 35) with
    | true =>
      rw [h1] at hx
      rw [h1, if_pos rfl] at hinc
      simp only [ic90_20, tmN, obN, n64, Pat.av, Pat.zero, items, wkA, Nat.reduceEqDiff, Nat.reduceAdd, Nat.reduceSub, Nat.reduceLeDiff, Nat.reduceLT, Nat.reduceBEq, Nat.reduceBNe, reduceCtorEq, e0]
      simp only [ic90_19, ic90_18, wkA, Nat.reduceEqDiff, Nat.reduceAdd, Nat.reduceSub, Nat.reduceLeDiff, Nat.reduceLT, Nat.reduceBEq, Nat.reduceBNe, reduceCtorEq, Int.toNat_natCast, hx, w1, htk]
      refine ⟨⟨by omega, by omega⟩, ⟨by omega, by omega, by omega⟩, by omega, ?_⟩
      refine ⟨_, all.length - (i + 1), Gh.refl _, by omega, i + 1, rfl, by omega, ?_⟩
      rw [hinc]; rfl
    | false =>
      rw [h1] at hx
      rw [h1, if_neg (by simp), List.append_nil] at hinc
      simp only [ic90_20, tmN, obN, n64, Pat.av, Pat.zero, items, wkA, Nat.reduceEqDiff, Nat.reduceAdd, Nat.reduceSub, Nat.reduceLeDiff, Nat.reduceLT, Nat.reduceBEq, Nat.reduceBNe, reduceCtorEq, e0]
      simp only [ic90_19, ic90_18, wkA, Nat.reduceEqDiff, Nat.reduceAdd, Nat.reduceSub, Nat.reduceLeDiff, Nat.reduceLT, Nat.reduceBEq, Nat.reduceBNe, reduceCtorEq, Int.toNat_natCast, hx, w1]
      refine ⟨⟨by omega, by omega⟩, ?_⟩
      refine ⟨_, all.length - (i + 1), Gh.refl _, by omega, i + 1, rfl, by omega, ?_⟩
      rw [hinc]; rfl
  · have e0 : decide ((i : Int) < (all.length : Int)) = false := decide_eq_false (by omega)
    have ht : all.take i = all := List.take_of_length_le (by omega)
    have hil : (incN all).length ≤ all.length := List.length_filter_le _ _
    have f := seg22 { p with minInt := countS plain 48, minFrac := countS fraction 48, maxFrac := fraction.length } sizes plain (incN all) (all, [(20, i64 i), (243, .bool false)]) hs (by omega) hsig
    rw [← hR] at f
    rw [ht]
    simp only [obN, n64, Pat.av, Pat.zero, items, wkA, Nat.reduceEqDiff, Nat.reduceAdd, Nat.reduceSub, Nat.reduceLeDiff, Nat.reduceLT, Nat.reduceBEq, Nat.reduceBNe, reduceCtorEq] at f
    simp only [ic90_20, tmN, obN, n64, Pat.av, Pat.zero, items, wkA, Nat.reduceEqDiff, Nat.reduceAdd, Nat.reduceSub, Nat.reduceLeDiff, Nat.reduceLT, Nat.reduceBEq, Nat.reduceBNe, reduceCtorEq, e0]
    exact f

def I15 (p : Pat) (sizes : List Nat) (plain : List UInt8) (j : Nat) (st : St) : Prop := ∃ (n : Nat) (ex : List (Nat × AV)), j = plain.length - n ∧ n ≤ plain.length ∧ 0 < countS (plain.drop n) 64 ∧ tagN plain = tagN (plain.drop n) ∧
  st = ⟨tmN p sizes plain ++ ex, obN { p with minSig := countS plain 64, maxSig := plain.length - n }⟩
theorem seg17 (p : Pat) (sizes : List Nat) (plain : List UInt8) (ex : List (Nat × AV)) (hs : sizes.length < 1000000) (hp : plain.length < 1000000) (h64 : 0 < countS plain 64) (R : Except Int Pat)
    (hR : R = if rowsS plain [35, 64, 35] = false then .error 4 else mixN { p with minSig := countS plain 64, maxSig := (tagN plain).length } sizes plain) :
    VC e0 ic90_17 (thenQ (VC e0 ic90_29 (qN R)) (qN R)) ⟨(2, .box 2 0) :: (4, .box 4 0) :: (7, .bool p.sci) :: (13, n64 sizes) :: (14, .str plain) :: ex, obN p⟩ := by
  have c119 := con119 plain 35 64 35 (by omega)
  have h35 : (((35 : UInt8).toNat : Nat) : Int) = 35 := rfl
  have h6 : (((64 : UInt8).toNat : Nat) : Int) = 64 := rfl
  have c118 := con118 plain 64 (by omega)
  rw [h35, h6] at c119
  rw [h6] at c118
  cases hr : rowsS plain [35, 64, 35] with
  | false =>
    rw [hr, if_pos rfl] at hR
    rw [hr] at c119
    subst hR
    simp only [ic90_17, obN, n64, Pat.av, Pat.zero, items, wkA, Nat.reduceEqDiff, Nat.reduceAdd, Nat.reduceSub, Nat.reduceLeDiff, Nat.reduceLT, Nat.reduceBEq, Nat.reduceBNe, reduceCtorEq]
    refine callF c119 rfl ?_
    simp only [wkA, Nat.reduceEqDiff, Nat.reduceAdd, Nat.reduceSub, Nat.reduceLeDiff, Nat.reduceLT, Nat.reduceBEq, Nat.reduceBNe, reduceCtorEq, Bool.not_false]
    rfl
  | true =>
    rw [hr, if_neg (by simp)] at hR
    rw [hr] at c119
    simp only [ic90_17, obN, n64, Pat.av, Pat.zero, items, wkA, Nat.reduceEqDiff, Nat.reduceAdd, Nat.reduceSub, Nat.reduceLeDiff, Nat.reduceLT, Nat.reduceBEq, Nat.reduceBNe, reduceCtorEq]
    refine callF c119 rfl ?_
    simp only [wkA, Nat.reduceEqDiff, Nat.reduceAdd, Nat.reduceSub, Nat.reduceLeDiff, Nat.reduceLT, Nat.reduceBEq, Nat.reduceBNe, reduceCtorEq, Bool.not_true]
    simp only [ic90_16, wkA, Nat.reduceEqDiff, Nat.reduceAdd, Nat.reduceSub, Nat.reduceLeDiff, Nat.reduceLT, Nat.reduceBEq, Nat.reduceBNe, reduceCtorEq]
    refine callF c118 rfl ?_
    simp only [wkA, Nat.reduceEqDiff, Nat.reduceAdd, Nat.reduceSub, Nat.reduceLeDiff, Nat.reduceLT, Nat.reduceBEq, Nat.reduceBNe, reduceCtorEq]
    refine ⟨I15 p sizes plain, plain.length, _, Gh.refl _, ⟨0, [], rfl, by omega, by simpa using h64, by simp, rfl⟩, ?_⟩
    rintro j st ⟨n, ex, rfl, hn, hc, ht, rfl⟩
    have hlt : n < plain.length := by
      rcases Nat.lt_or_ge n plain.length with h | h
      · exact h
      · rw [List.drop_of_length_le h] at hc; simp [countS] at hc
    have w1 : IntKind.i64.wrap ((plain.length : Int) - ((plain.length - n : Nat) : Int)) = (n : Int) := by rw [wrap64] <;> omega
    have w2 : IntKind.i64.wrap (((plain.length - n : Nat) : Int) - 1) = ((plain.length - (n + 1) : Nat) : Int) := by rw [wrap64] <;> omega
    have hx := beq8 (plain.getD n 0) 35
    rw [h35] at hx
    rw [drop_get hlt] at hc ht
    rw [countS_cons] at hc
    cases h1 : (plain.getD n 0 == 35) with
    | true =>
      rw [h1] at hx
      have h2 : plain.getD n 0 = 35 := beq_iff_eq.1 h1
      rw [h2, if_neg (by decide), Nat.zero_add] at hc
      have ht2 : tagN plain = tagN (plain.drop (n + 1)) := by rw [ht, h2, tagN, tagN, List.dropWhile_cons]; rfl
      simp only [ic90_15, tmN, obN, n64, Pat.av, Pat.zero, items, wkA, Nat.reduceEqDiff, Nat.reduceAdd, Nat.reduceSub, Nat.reduceLeDiff, Nat.reduceLT, Nat.reduceBEq, Nat.reduceBNe, reduceCtorEq, w1, Int.toNat_natCast, hx]
      refine ⟨⟨by omega, by omega⟩, ?_⟩
      simp only [ic90_14, wkA, Nat.reduceEqDiff, Nat.reduceAdd, Nat.reduceSub, Nat.reduceLeDiff, Nat.reduceLT, Nat.reduceBEq, Nat.reduceBNe, reduceCtorEq, w2]
      exact ⟨_, plain.length - (n + 1), Gh.refl _, by omega, n + 1, [], rfl, by omega, hc, ht2, rfl⟩
    | false =>
      rw [h1] at hx
      have ht2 : (tagN plain).length = plain.length - n := by
        rw [ht, tagN, List.dropWhile_cons, if_neg (by rw [h1]; simp)]
        simp; omega
      rw [ht2] at hR
      have f := fun ex => seg29 { p with minSig := countS plain 64, maxSig := plain.length - n } sizes plain (fun _ h => by rw [h] at hlt; simp at hlt) hs ex
      rw [← hR] at f
      simp only [obN, n64, Pat.av, Pat.zero, items, wkA, Nat.reduceEqDiff, Nat.reduceAdd, Nat.reduceSub, Nat.reduceLeDiff, Nat.reduceLT, Nat.reduceBEq, Nat.reduceBNe, reduceCtorEq] at f
      simp only [ic90_15, tmN, obN, n64, Pat.av, Pat.zero, items, wkA, Nat.reduceEqDiff, Nat.reduceAdd, Nat.reduceSub, Nat.reduceLeDiff, Nat.reduceLT, Nat.reduceBEq, Nat.reduceBNe, reduceCtorEq, w1, Int.toNat_natCast, hx]
      refine ⟨⟨by omega, by omega⟩, ?_⟩
      exact f _

theorem seg30 (p : Pat) (sizes : List Nat) (plain fraction all : List UInt8) (point : Bool) (ex : List (Nat × AV)) (hs : sizes.length < 1000000) (hp : plain.length < 1000000) (hf : fraction.length < 1000000) (ha : all.length < 1000000) (hsig : p.minSig = 0) (hall : point = false → all = plain) :
    VC e0 ic90_30 (qN (choN p sizes plain fraction all point)) ⟨(2, .box 2 0) :: (4, .box 4 0) :: (7, .bool p.sci) :: (11, .str fraction) :: (12, .bool point) :: (13, n64 sizes) :: (14, .str plain) :: (18, .str all) :: ex, obN p⟩ := by
  have c1 := con118 all 64 (by omega)
  have c2 := con118 plain 48 (by omega)
  have c3 := con119 plain 35 48 48 (by omega)
  have c4 := con119 fraction 48 35 35 (by omega)
  have h35 : (((35 : UInt8).toNat : Nat) : Int) = 35 := rfl
  have h6 : (((64 : UInt8).toNat : Nat) : Int) = 64 := rfl
  have h48 : (((48 : UInt8).toNat : Nat) : Int) = 48 := rfl
  rw [h6] at c1
  rw [h48] at c2
  rw [h35, h48] at c3 c4
  have e1 : decide (((countS all 64 : Nat) : Int) > 0) = decide (0 < countS all 64) := by rw [decide_eq_decide]; omega
  have e2 : decide (((countS plain 48 : Nat) : Int) > 0) = decide (0 < countS plain 48) := by rw [decide_eq_decide]; omega
  have f17 := fun (h : 0 < countS plain 64) R hR ex => seg17 p sizes plain ex hs hp h R hR
  have f23 := fun R hR ex => seg23 p sizes plain fraction all ex hs hp hf ha hsig R hR
  unfold choN
  cases h1 : decide (0 < countS all 64) with
  | true =>
    rw [h1] at e1
    have h1' : 0 < countS all 64 := by simpa using h1
    rw [if_pos h1']
    cases hpt : point with
    | true =>
      rw [if_pos (.inl rfl)]
      simp only [ic90_30, obN, n64, Pat.av, Pat.zero, items, wkA, Nat.reduceEqDiff, Nat.reduceAdd, Nat.reduceSub, Nat.reduceLeDiff, Nat.reduceLT, Nat.reduceBEq, Nat.reduceBNe, reduceCtorEq]
      refine callF c1 rfl ?_
      simp only [wkA, Nat.reduceEqDiff, Nat.reduceAdd, Nat.reduceSub, Nat.reduceLeDiff, Nat.reduceLT, Nat.reduceBEq, Nat.reduceBNe, reduceCtorEq, e1]
      rfl
    | false =>
      rw [hall hpt] at h1'
      cases h2 : decide (0 < countS plain 48) with
      | true =>
        rw [h2] at e2
        rw [if_pos (.inr (by simpa using h2))]
        simp only [ic90_30, obN, n64, Pat.av, Pat.zero, items, wkA, Nat.reduceEqDiff, Nat.reduceAdd, Nat.reduceSub, Nat.reduceLeDiff, Nat.reduceLT, Nat.reduceBEq, Nat.reduceBNe, reduceCtorEq]
        refine callF c1 rfl ?_
        simp only [wkA, Nat.reduceEqDiff, Nat.reduceAdd, Nat.reduceSub, Nat.reduceLeDiff, Nat.reduceLT, Nat.reduceBEq, Nat.reduceBNe, reduceCtorEq, e1]
        refine callF c2 rfl ?_
        simp only [wkA, Nat.reduceEqDiff, Nat.reduceAdd, Nat.reduceSub, Nat.reduceLeDiff, Nat.reduceLT, Nat.reduceBEq, Nat.reduceBNe, reduceCtorEq, e2]
        rfl
      | false =>
        rw [h2] at e2
        rw [if_neg (by simp at h2; simp; omega)]
        have f := f17 h1' _ rfl
        simp only [obN, n64, Pat.av, Pat.zero, items, wkA, Nat.reduceEqDiff, Nat.reduceAdd, Nat.reduceSub, Nat.reduceLeDiff, Nat.reduceLT, Nat.reduceBEq, Nat.reduceBNe, reduceCtorEq] at f
        simp only [ic90_30, obN, n64, Pat.av, Pat.zero, items, wkA, Nat.reduceEqDiff, Nat.reduceAdd, Nat.reduceSub, Nat.reduceLeDiff, Nat.reduceLT, Nat.reduceBEq, Nat.reduceBNe, reduceCtorEq]
        refine callF c1 rfl ?_
        simp only [wkA, Nat.reduceEqDiff, Nat.reduceAdd, Nat.reduceSub, Nat.reduceLeDiff, Nat.reduceLT, Nat.reduceBEq, Nat.reduceBNe, reduceCtorEq, e1]
        refine callF c2 rfl ?_
        simp only [wkA, Nat.reduceEqDiff, Nat.reduceAdd, Nat.reduceSub, Nat.reduceLeDiff, Nat.reduceLT, Nat.reduceBEq, Nat.reduceBNe, reduceCtorEq, e2]
        exact f _
  | false =>
    rw [h1] at e1
    rw [if_neg (by simpa using h1)]
    cases h3 : rowsS plain [35, 48, 48] with
    | false =>
      rw [h3] at c3
      rw [if_pos (.inl rfl)]
      simp only [ic90_30, obN, n64, Pat.av, Pat.zero, items, wkA, Nat.reduceEqDiff, Nat.reduceAdd, Nat.reduceSub, Nat.reduceLeDiff, Nat.reduceLT, Nat.reduceBEq, Nat.reduceBNe, reduceCtorEq]
      refine callF c1 rfl ?_
      simp only [wkA, Nat.reduceEqDiff, Nat.reduceAdd, Nat.reduceSub, Nat.reduceLeDiff, Nat.reduceLT, Nat.reduceBEq, Nat.reduceBNe, reduceCtorEq, e1]
      refine callF c3 rfl ?_
      simp only [wkA, Nat.reduceEqDiff, Nat.reduceAdd, Nat.reduceSub, Nat.reduceLeDiff, Nat.reduceLT, Nat.reduceBEq, Nat.reduceBNe, reduceCtorEq, Bool.not_false]
      rfl
    | true =>
      rw [h3] at c3
      cases h4 : rowsS fraction [48, 35, 35] with
      | false =>
        rw [h4] at c4
        rw [if_pos (.inr rfl)]
        simp only [ic90_30, obN, n64, Pat.av, Pat.zero, items, wkA, Nat.reduceEqDiff, Nat.reduceAdd, Nat.reduceSub, Nat.reduceLeDiff, Nat.reduceLT, Nat.reduceBEq, Nat.reduceBNe, reduceCtorEq]
        refine callF c1 rfl ?_
        simp only [wkA, Nat.reduceEqDiff, Nat.reduceAdd, Nat.reduceSub, Nat.reduceLeDiff, Nat.reduceLT, Nat.reduceBEq, Nat.reduceBNe, reduceCtorEq, e1]
        refine callF c3 rfl ?_
        simp only [wkA, Nat.reduceEqDiff, Nat.reduceAdd, Nat.reduceSub, Nat.reduceLeDiff, Nat.reduceLT, Nat.reduceBEq, Nat.reduceBNe, reduceCtorEq, Bool.not_true]
        refine callF c4 rfl ?_
        simp only [wkA, Nat.reduceEqDiff, Nat.reduceAdd, Nat.reduceSub, Nat.reduceLeDiff, Nat.reduceLT, Nat.reduceBEq, Nat.reduceBNe, reduceCtorEq, Bool.not_false]
        rfl
      | true =>
        rw [h4] at c4
        rw [if_neg (by simp)]
        have f := f23 _ rfl
        simp only [obN, n64, Pat.av, Pat.zero, items, wkA, Nat.reduceEqDiff, Nat.reduceAdd, Nat.reduceSub, Nat.reduceLeDiff, Nat.reduceLT, Nat.reduceBEq, Nat.reduceBNe, reduceCtorEq] at f
        simp only [ic90_30, obN, n64, Pat.av, Pat.zero, items, wkA, Nat.reduceEqDiff, Nat.reduceAdd, Nat.reduceSub, Nat.reduceLeDiff, Nat.reduceLT, Nat.reduceBEq, Nat.reduceBNe, reduceCtorEq]
        refine callF c1 rfl ?_
        simp only [wkA, Nat.reduceEqDiff, Nat.reduceAdd, Nat.reduceSub, Nat.reduceLeDiff, Nat.reduceLT, Nat.reduceBEq, Nat.reduceBNe, reduceCtorEq, e1]
        refine callF c3 rfl ?_
        simp only [wkA, Nat.reduceEqDiff, Nat.reduceAdd, Nat.reduceSub, Nat.reduceLeDiff, Nat.reduceLT, Nat.reduceBEq, Nat.reduceBNe, reduceCtorEq, Bool.not_true]
        refine callF c4 rfl ?_
        simp only [wkA, Nat.reduceEqDiff, Nat.reduceAdd, Nat.reduceSub, Nat.reduceLeDiff, Nat.reduceLT, Nat.reduceBEq, Nat.reduceBNe, reduceCtorEq, Bool.not_true]
        exact f _

theorem seg31 (p : Pat) (sizes : List Nat) (plain fraction : List UInt8) (point : Bool) (ex : List (Nat × AV)) (hs : sizes.length < 1000000) (hp : plain.length < 400000) (hf : fraction.length < 400000) (hsig : p.minSig = 0) (hall : point = false → fraction = []) :
    VC e0 ic90_31 (qN (allN p sizes plain fraction point)) ⟨(2, .box 2 0) :: (4, .box 4 0) :: (7, .bool p.sci) :: (11, .str fraction) :: (12, .bool point) :: (13, n64 sizes) :: (14, .str plain) :: ex, obN p⟩ := by
  have e1 : (plain ++ fraction == []) = decide (plain ++ fraction = []) := strBeq _ _
  unfold allN
  by_cases h : plain ++ fraction = []
  · rw [decide_eq_true h] at e1
    rw [if_pos h]
    simp only [ic90_31, obN, n64, Pat.av, Pat.zero, items, wkA, Nat.reduceEqDiff, Nat.reduceAdd, Nat.reduceSub, Nat.reduceLeDiff, Nat.reduceLT, Nat.reduceBEq, Nat.reduceBNe, reduceCtorEq, e1]
    refine ⟨by omega, ?_⟩
    rfl
  · rw [decide_eq_false h] at e1
    rw [if_neg h]
    have f := fun ex => seg30 p sizes plain fraction (plain ++ fraction) point ex hs (by omega) (by omega) (by simp; omega) hsig (fun hp => by rw [hall hp]; simp)
    simp only [obN, n64, Pat.av, Pat.zero, items, wkA, Nat.reduceEqDiff, Nat.reduceAdd, Nat.reduceSub, Nat.reduceLeDiff, Nat.reduceLT, Nat.reduceBEq, Nat.reduceBNe, reduceCtorEq] at f
    simp only [ic90_31, obN, n64, Pat.av, Pat.zero, items, wkA, Nat.reduceEqDiff, Nat.reduceAdd, Nat.reduceSub, Nat.reduceLeDiff, Nat.reduceLT, Nat.reduceBEq, Nat.reduceBNe, reduceCtorEq, e1]
    exact ⟨by omega, f _⟩

theorem getSz {l : List Nat} {i : Nat} (h : i < l.length) : (l.map fun (n : Nat) => i64 n).getD i .top = .int .i64 (l.getD i 0) := by
  simp [List.getD_eq_getElem?_getD, h]
theorem seg32 (p : Pat) (sizes : List Nat) (plain fraction : List UInt8) (point : Bool) (ex : List (Nat × AV)) (hs : sizes.length < 1000000) (hp : plain.length < 400000) (hf : fraction.length < 400000) (hsig : p.minSig = 0) (hall : point = false → fraction = []) (R : Except Int Pat)
    (hR : R = allN { p with sec := if 2 < sizes.length then sizes.getD (sizes.length - 2) 0 else p.sec } sizes plain fraction point) :
    VC e0 ic90_32 (qN R) ⟨(2, .box 2 0) :: (4, .box 4 0) :: (7, .bool p.sci) :: (11, .str fraction) :: (12, .bool point) :: (13, n64 sizes) :: (14, .str plain) :: ex, obN p⟩ := by
  by_cases h2 : 2 < sizes.length
  · have e1 : decide (((sizes.length : Nat) : Int) > 2) = true := decide_eq_true (by omega)
    have w1 : IntKind.i64.wrap ((sizes.length : Int) - 2) = ((sizes.length - 2 : Nat) : Int) := by rw [wrap64] <;> omega
    have hg := getSz (l := sizes) (i := sizes.length - 2) (by omega)
    rw [if_pos h2] at hR
    have f := fun ex => seg31 { p with sec := sizes.getD (sizes.length - 2) 0 } sizes plain fraction point ex hs hp hf hsig hall
    rw [← hR] at f
    simp only [obN, n64, Pat.av, Pat.zero, items, wkA, Nat.reduceEqDiff, Nat.reduceAdd, Nat.reduceSub, Nat.reduceLeDiff, Nat.reduceLT, Nat.reduceBEq, Nat.reduceBNe, reduceCtorEq] at f
    simp only [ic90_32, obN, n64, Pat.av, Pat.zero, items, wkA, Nat.reduceEqDiff, Nat.reduceAdd, Nat.reduceSub, Nat.reduceLeDiff, Nat.reduceLT, Nat.reduceBEq, Nat.reduceBNe, reduceCtorEq, List.length_map, e1, w1, Int.toNat_natCast, hg]
    exact ⟨⟨by omega, by omega⟩, f _⟩
  · have e1 : decide (((sizes.length : Nat) : Int) > 2) = false := decide_eq_false (by omega)
    rw [if_neg h2] at hR
    have f := fun ex => seg31 p sizes plain fraction point ex hs hp hf hsig hall
    rw [← hR] at f
    simp only [obN, n64, Pat.av, Pat.zero, items, wkA, Nat.reduceEqDiff, Nat.reduceAdd, Nat.reduceSub, Nat.reduceLeDiff, Nat.reduceLT, Nat.reduceBEq, Nat.reduceBNe, reduceCtorEq] at f
    simp only [ic90_32, obN, n64, Pat.av, Pat.zero, items, wkA, Nat.reduceEqDiff, Nat.reduceAdd, Nat.reduceSub, Nat.reduceLeDiff, Nat.reduceLT, Nat.reduceBEq, Nat.reduceBNe, reduceCtorEq, List.length_map, e1]
    exact f _
theorem seg33 (p : Pat) (sizes : List Nat) (plain fraction : List UInt8) (point : Bool) (ex : List (Nat × AV)) (hs : sizes.length < 1000000) (hp : plain.length < 400000) (hf : fraction.length < 400000) (hsig : p.minSig = 0) (hall : point = false → fraction = []) (R : Except Int Pat) (hp0 : p.prim = 0 ∧ p.sec = 0)
    (hR : R = allN { p with prim := if 1 < sizes.length then sizes.getD (sizes.length - 1) 0 else 0, sec := if 2 < sizes.length then sizes.getD (sizes.length - 2) 0 else if 1 < sizes.length then sizes.getD (sizes.length - 1) 0 else 0 } sizes plain fraction point) :
    VC e0 ic90_33 (qN R) ⟨(2, .box 2 0) :: (4, .box 4 0) :: (7, .bool p.sci) :: (11, .str fraction) :: (12, .bool point) :: (13, n64 sizes) :: (14, .str plain) :: ex, obN p⟩ := by
  by_cases h2 : 1 < sizes.length
  · have e1 : decide (((sizes.length : Nat) : Int) > 1) = true := decide_eq_true (by omega)
    have w1 : IntKind.i64.wrap ((sizes.length : Int) - 1) = ((sizes.length - 1 : Nat) : Int) := by rw [wrap64] <;> omega
    have hg := getSz (l := sizes) (i := sizes.length - 1) (by omega)
    rw [if_pos h2] at hR
    have f := fun ex => seg32 { p with prim := sizes.getD (sizes.length - 1) 0, sec := sizes.getD (sizes.length - 1) 0 } sizes plain fraction point ex hs hp hf hsig hall R hR
    simp only [obN, n64, Pat.av, Pat.zero, items, wkA, Nat.reduceEqDiff, Nat.reduceAdd, Nat.reduceSub, Nat.reduceLeDiff, Nat.reduceLT, Nat.reduceBEq, Nat.reduceBNe, reduceCtorEq] at f
    simp only [ic90_33, obN, n64, Pat.av, Pat.zero, items, wkA, Nat.reduceEqDiff, Nat.reduceAdd, Nat.reduceSub, Nat.reduceLeDiff, Nat.reduceLT, Nat.reduceBEq, Nat.reduceBNe, reduceCtorEq, List.length_map, e1, w1, Int.toNat_natCast, hg]
    exact ⟨⟨by omega, by omega⟩, ⟨by omega, by omega⟩, f _⟩
  · have e1 : decide (((sizes.length : Nat) : Int) > 1) = false := decide_eq_false (by omega)
    have hpe : ({ p with prim := if 1 < sizes.length then sizes.getD (sizes.length - 1) 0 else 0, sec := if 2 < sizes.length then sizes.getD (sizes.length - 2) 0 else if 1 < sizes.length then sizes.getD (sizes.length - 1) 0 else 0 } : Pat) = { p with sec := if 2 < sizes.length then sizes.getD (sizes.length - 2) 0 else p.sec } := by
      rw [if_neg h2, hp0.2, ← hp0.1]
    rw [hpe] at hR
    have f := fun ex => seg32 p sizes plain fraction point ex hs hp hf hsig hall R hR
    simp only [obN, n64, Pat.av, Pat.zero, items, wkA, Nat.reduceEqDiff, Nat.reduceAdd, Nat.reduceSub, Nat.reduceLeDiff, Nat.reduceLT, Nat.reduceBEq, Nat.reduceBNe, reduceCtorEq] at f
    simp only [ic90_33, obN, n64, Pat.av, Pat.zero, items, wkA, Nat.reduceEqDiff, Nat.reduceAdd, Nat.reduceSub, Nat.reduceLeDiff, Nat.reduceLT, Nat.reduceBEq, Nat.reduceBNe, reduceCtorEq, List.length_map, e1]
    exact f _

def I13 (p : Pat) (sizes : List Nat) (plain fraction : List UInt8) (point : Bool) (j : Nat) (st : St) : Prop := ∃ n : Nat, j = sizes.length - n ∧ n ≤ sizes.length ∧ (1 < sizes.length → ∀ k, k < n → sizes.getD k 0 ≠ 0) ∧
  st = ⟨[(2, .box 2 0), (4, .box 4 0), (7, .bool p.sci), (11, .str fraction), (12, .bool point), (13, n64 sizes), (14, .str plain), (17, i64 n)], obN p⟩
theorem seg34 (p : Pat) (sizes : List Nat) (whole plain fraction : List UInt8) (point : Bool) (ex : List (Nat × AV)) (hs : sizes.length < 1000000) (hp : plain.length < 400000) (hf : fraction.length < 400000) (hsig : p.minSig = 0) (hall : point = false → fraction = []) (hp0 : p.prim = 0 ∧ p.sec = 0) :
    VC e0 ic90_34 (qN (sizN p sizes plain fraction point)) ⟨(2, .box 2 0) :: (4, .box 4 0) :: (7, .bool p.sci) :: (10, .str whole) :: (11, .str fraction) :: (12, .bool point) :: (13, .own 139) :: (14, .str plain) :: ex, obN p ++ [szN sizes]⟩ := by
  simp only [ic90_34, obN, Pat.av, Pat.zero, items, wkA, Nat.reduceEqDiff, Nat.reduceAdd, Nat.reduceSub, Nat.reduceLeDiff, Nat.reduceLT, Nat.reduceBEq, Nat.reduceBNe, reduceCtorEq]
  refine ⟨I13 p sizes plain fraction point, sizes.length, ⟨[(2, .box 2 0), (4, .box 4 0), (7, .bool p.sci), (11, .str fraction), (12, .bool point), (13, n64 sizes), (14, .str plain), (17, i64 0)], obN p⟩, ?_, ⟨0, rfl, by omega, fun _ k hk => absurd hk (by omega), rfl⟩, ?_⟩
  · have := Gh.frz ⟨[(2, .box 2 0), (4, .box 4 0), (7, .bool p.sci), (11, .str fraction), (12, .bool point), (13, .own 139), (14, .str plain), (17, i64 0)], obN p ++ [szN sizes]⟩ 139
    simp only [obN, Pat.av, Pat.zero, items, wkA, Nat.reduceEqDiff, Nat.reduceAdd, Nat.reduceSub, Nat.reduceLeDiff, Nat.reduceLT, Nat.reduceBEq, Nat.reduceBNe, reduceCtorEq] at this
    exact this
  · rintro j st ⟨n, rfl, hn, hall0, rfl⟩
    by_cases hlt : n < sizes.length
    · have e0 : decide ((n : Int) < (sizes.length : Int)) = true := decide_eq_true (by omega)
      have w1 : IntKind.i64.wrap ((n : Int) + 1) = ((n + 1 : Nat) : Int) := by rw [wrap64] <;> omega
      have hg := getSz hlt
      by_cases h1 : 1 < sizes.length
      · have e1 : decide ((sizes.length : Int) > 1) = true := decide_eq_true (by omega)
        by_cases h0 : sizes.getD n 0 = 0
        · have e2 : (((sizes.getD n 0 : Nat) : Int) == 0) = true := by rw [h0]; rfl
          have hres : sizN p sizes plain fraction point = .error 5 := by
            rw [sizN, if_pos]
            refine ⟨h1, ?_⟩
            have : sizes.getD n 0 ∈ sizes := by
              rw [List.getD_eq_getElem?_getD, List.getElem?_eq_getElem hlt]
              exact List.getElem_mem hlt
            rwa [h0] at this
          rw [hres]
          simp only [ic90_13, obN, n64, Pat.av, Pat.zero, items, wkA, Nat.reduceEqDiff, Nat.reduceAdd, Nat.reduceSub, Nat.reduceLeDiff, Nat.reduceLT, Nat.reduceBEq, Nat.reduceBNe, reduceCtorEq, List.length_map, e0]
          simp only [ic90_12, wkA, Nat.reduceEqDiff, Nat.reduceAdd, Nat.reduceSub, Nat.reduceLeDiff, Nat.reduceLT, Nat.reduceBEq, Nat.reduceBNe, reduceCtorEq, List.length_map, e1, Int.toNat_natCast, hg, e2]
          refine ⟨⟨by omega, by omega⟩, ?_⟩
          rfl
        · have e2 : (((sizes.getD n 0 : Nat) : Int) == 0) = false := by rw [beq_eq_false_iff_ne]; omega
          simp only [ic90_13, obN, n64, Pat.av, Pat.zero, items, wkA, Nat.reduceEqDiff, Nat.reduceAdd, Nat.reduceSub, Nat.reduceLeDiff, Nat.reduceLT, Nat.reduceBEq, Nat.reduceBNe, reduceCtorEq, List.length_map, e0]
          simp only [ic90_12, ic90_11, wkA, Nat.reduceEqDiff, Nat.reduceAdd, Nat.reduceSub, Nat.reduceLeDiff, Nat.reduceLT, Nat.reduceBEq, Nat.reduceBNe, reduceCtorEq, List.length_map, e1, Int.toNat_natCast, hg, e2, w1]
          refine ⟨⟨by omega, by omega⟩, _, sizes.length - (n + 1), Gh.refl _, by omega, n + 1, rfl, by omega, fun hh k hk => ?_, rfl⟩
          by_cases hkn : k = n
          · subst hkn; exact h0
          · exact hall0 hh k (by omega)
      · have e1 : decide ((sizes.length : Int) > 1) = false := decide_eq_false (by omega)
        simp only [ic90_13, obN, n64, Pat.av, Pat.zero, items, wkA, Nat.reduceEqDiff, Nat.reduceAdd, Nat.reduceSub, Nat.reduceLeDiff, Nat.reduceLT, Nat.reduceBEq, Nat.reduceBNe, reduceCtorEq, List.length_map, e0]
        simp only [ic90_12, ic90_11, wkA, Nat.reduceEqDiff, Nat.reduceAdd, Nat.reduceSub, Nat.reduceLeDiff, Nat.reduceLT, Nat.reduceBEq, Nat.reduceBNe, reduceCtorEq, List.length_map, e1, w1]
        exact ⟨_, sizes.length - (n + 1), Gh.refl _, by omega, n + 1, rfl, by omega, fun hh => absurd hh h1, rfl⟩
    · have e0 : decide ((n : Int) < (sizes.length : Int)) = false := decide_eq_false (by omega)
      have hres : sizN p sizes plain fraction point = allN { p with prim := if 1 < sizes.length then sizes.getD (sizes.length - 1) 0 else 0, sec := if 2 < sizes.length then sizes.getD (sizes.length - 2) 0 else if 1 < sizes.length then sizes.getD (sizes.length - 1) 0 else 0 } sizes plain fraction point := by
        rw [sizN, if_neg]
        rintro ⟨h1, hm⟩
        obtain ⟨k, hk, he⟩ := List.mem_iff_getElem.1 hm
        refine hall0 h1 k (by omega) ?_
        rw [List.getD_eq_getElem?_getD, List.getElem?_eq_getElem hk, he]; rfl
      have f := fun ex => seg33 p sizes plain fraction point ex hs hp hf hsig hall _ hp0 hres
      simp only [obN, n64, Pat.av, Pat.zero, items, wkA, Nat.reduceEqDiff, Nat.reduceAdd, Nat.reduceSub, Nat.reduceLeDiff, Nat.reduceLT, Nat.reduceBEq, Nat.reduceBNe, reduceCtorEq] at f
      simp only [ic90_13, obN, n64, Pat.av, Pat.zero, items, wkA, Nat.reduceEqDiff, Nat.reduceAdd, Nat.reduceSub, Nat.reduceLeDiff, Nat.reduceLT, Nat.reduceBEq, Nat.reduceBNe, reduceCtorEq, List.length_map, e0]
      exact f _

theorem sizesS_nil (n : Nat) : sizesS [] n = [n] := rfl
theorem sizesS_cons (c : UInt8) (s : List UInt8) (n : Nat) : sizesS (c :: s) n = if c = 44 then n :: sizesS s 0 else sizesS s (n + 1) := rfl
theorem sizesS_len (s : List UInt8) : ∀ n, (sizesS s n).length ≤ s.length + 1 := by
  induction s with
  | nil => intro n; simp [sizesS_nil]
  | cons c s ih =>
    intro n
    rw [sizesS_cons]
    split
    · have := ih 0; simp; omega
    · have := ih (n + 1); simp; omega
theorem plainS_snoc (s : List UInt8) (c : UInt8) : plainS (s ++ [c]) = plainS s ++ (if (c != 44) = true then [c] else []) := by
  rw [plainS, plainS, List.filter_append, List.filter_cons, List.filter_nil]
theorem plainS_len (s : List UInt8) : (plainS s).length ≤ s.length := List.length_filter_le _ _
def I10 (p : Pat) (whole fraction : List UInt8) (point : Bool) (j : Nat) (st : St) : Prop := ∃ (i n : Nat) (szs : List Nat), j = whole.length + 1 - i ∧ i ≤ whole.length + 1 ∧ n ≤ i ∧ szs.length ≤ i ∧
  st = ⟨[(2, .box 2 0), (4, .box 4 0), (7, .bool p.sci), (10, .str whole), (11, .str fraction), (12, .bool point), (13, .own 139), (14, .str (plainS (whole.take i))), (15, i64 n), (16, i64 i)], obN p ++ [szN szs]⟩ ∧
  (i ≤ whole.length → sizesS whole 0 = szs ++ sizesS (whole.drop i) n) ∧ (i = whole.length + 1 → sizesS whole 0 = szs)
theorem seg35 (p : Pat) (whole fraction : List UInt8) (point : Bool) (ex : List (Nat × AV)) (hw : whole.length < 400000) (hf : fraction.length < 400000) (hsig : p.minSig = 0) (hall : point = false → fraction = []) (hp0 : p.prim = 0 ∧ p.sec = 0) :
    VC e0 ic90_35 (qN (sizN p (sizesS whole 0) (plainS whole) fraction point)) ⟨(2, .box 2 0) :: (4, .box 4 0) :: (7, .bool p.sci) :: (10, .str whole) :: (11, .str fraction) :: (12, .bool point) :: ex, obN p⟩ := by
  simp only [ic90_35, obN, Pat.av, Pat.zero, items, wkA, Nat.reduceEqDiff, Nat.reduceAdd, Nat.reduceSub, Nat.reduceLeDiff, Nat.reduceLT, Nat.reduceBEq, Nat.reduceBNe, reduceCtorEq]
  refine ⟨I10 p whole fraction point, whole.length + 1, ⟨[(2, .box 2 0), (4, .box 4 0), (7, .bool p.sci), (10, .str whole), (11, .str fraction), (12, .bool point), (13, .own 139), (14, .str []), (15, i64 0), (16, i64 0)], obN p ++ [szN []]⟩, ?_, ⟨0, 0, [], rfl, by omega, by omega, by simp, rfl, by simp, by omega⟩, ?_⟩
  · have := Gh.own (s := ⟨[(2, .box 2 0), (4, .box 4 0), (7, .bool p.sci), (10, .str whole), (11, .str fraction), (12, .bool point), (13, .nil), (14, .str []), (15, i64 0), (16, i64 0)], obN p⟩) (t := 13) 3 1 139 rfl (by decide)
    refine Gh.trans ?_ ((this.trans (Gh.keep _ [2, 4, 7, 10, 11, 12, 13, 14, 15, 16] [2, 4, 139])).trans ?_)
    · simp only [obN, Pat.av, Pat.zero, items, wkA, Nat.reduceEqDiff, Nat.reduceAdd, Nat.reduceSub, Nat.reduceLeDiff, Nat.reduceLT, Nat.reduceBEq, Nat.reduceBNe, reduceCtorEq]
      exact Gh.refl _
    · simp only [obN, Pat.av, Pat.zero, items, wkA, Nat.reduceEqDiff, Nat.reduceAdd, Nat.reduceSub, Nat.reduceLeDiff, Nat.reduceLT, Nat.reduceBEq, Nat.reduceBNe, reduceCtorEq]
      exact Gh.refl _
  · rintro j st ⟨i, n, szs, rfl, hi, hni, hsl, rfl, hS1, hS2⟩
    by_cases hle : i ≤ whole.length
    · have e0 : decide ((i : Int) ≤ (whole.length : Int)) = true := decide_eq_true (by omega)
      have w1 : IntKind.i64.wrap ((i : Int) + 1) = ((i + 1 : Nat) : Int) := by rw [wrap64] <;> omega
      have w2 : IntKind.i64.wrap ((n : Int) + 1) = ((n + 1 : Nat) : Int) := by rw [wrap64] <;> omega
      have hS := hS1 hle
      by_cases hlt : i < whole.length
      · have e1 : decide ((i : Int) < (whole.length : Int)) = true := decide_eq_true (by omega)
        have hx : ((((whole.getD i 0).toNat : Nat) : Int) != 44) = (whole.getD i 0 != 44) := by
          have := beq8 (whole.getD i 0) 44
          rw [bne, bne]; exact congrArg (!·) this
        have htk : (whole.drop i).take (i + 1 - i) = [whole.getD i 0] := by rw [drop_get hlt]; simp
        have hpl := plainS_snoc (whole.take i) (whole.getD i 0)
        rw [← take_succ8 hlt] at hpl
        have hpll := plainS_len (whole.take i)
        have htl : (whole.take i).length = i := by simp; omega
        rw [drop_get hlt, sizesS_cons] at hS
        cases h1 : (whole.getD i 0 != 44) with
        | true =>
          rw [h1] at hx
          rw [h1, if_pos rfl] at hpl
          rw [if_neg (by simpa using h1)] at hS
          simp only [ic90_10, obN, Pat.av, Pat.zero, items, wkA, Nat.reduceEqDiff, Nat.reduceAdd, Nat.reduceSub, Nat.reduceLeDiff, Nat.reduceLT, Nat.reduceBEq, Nat.reduceBNe, reduceCtorEq, e0]
          simp only [ic90_9, ic90_8, wkA, Nat.reduceEqDiff, Nat.reduceAdd, Nat.reduceSub, Nat.reduceLeDiff, Nat.reduceLT, Nat.reduceBEq, Nat.reduceBNe, reduceCtorEq, e1, Int.toNat_natCast, hx, htk, w1, w2]
          refine ⟨⟨by omega, by omega⟩, ⟨by omega, by omega, by omega⟩, by omega, ?_⟩
          refine ⟨_, whole.length + 1 - (i + 1), Gh.refl _, by omega, i + 1, n + 1, szs, rfl, by omega, by omega, by omega, ?_, fun _ => hS, fun h => by omega⟩
          rw [hpl]; rfl
        | false =>
          rw [h1] at hx
          rw [h1, if_neg (by simp), List.append_nil] at hpl
          rw [if_pos (by simpa using h1)] at hS
          simp only [ic90_10, obN, Pat.av, Pat.zero, items, wkA, Nat.reduceEqDiff, Nat.reduceAdd, Nat.reduceSub, Nat.reduceLeDiff, Nat.reduceLT, Nat.reduceBEq, Nat.reduceBNe, reduceCtorEq, e0]
          simp only [ic90_9, ic90_8, ic90_7, wkA, Nat.reduceEqDiff, Nat.reduceAdd, Nat.reduceSub, Nat.reduceLeDiff, Nat.reduceLT, Nat.reduceBEq, Nat.reduceBNe, reduceCtorEq, e1, Int.toNat_natCast, hx, w1, List.length_map]
          refine ⟨⟨by omega, by omega⟩, ⟨by omega, by omega⟩, ?_⟩
          refine ⟨_, whole.length + 1 - (i + 1), Gh.refl _, by omega, i + 1, 0, szs ++ [n], rfl, by omega, by omega, by simp; omega, ?_, fun _ => by rw [hS]; simp, fun h => by omega⟩
          rw [hpl]
          simp only [obN, szN, Pat.av, Pat.zero, items, wkA, Nat.reduceEqDiff, Nat.reduceAdd, Nat.reduceSub, Nat.reduceLeDiff, Nat.reduceLT, Nat.reduceBEq, Nat.reduceBNe, reduceCtorEq, List.map_append]
          rfl
      · have e1 : decide ((i : Int) < (whole.length : Int)) = false := decide_eq_false (by omega)
        have hie : i = whole.length := by omega
        have hd : whole.drop i = [] := List.drop_of_length_le (by omega)
        have ht1 : whole.take i = whole := List.take_of_length_le (by omega)
        have ht2 : whole.take (i + 1) = whole := List.take_of_length_le (by omega)
        rw [hd, sizesS_nil] at hS
        simp only [ic90_10, obN, Pat.av, Pat.zero, items, wkA, Nat.reduceEqDiff, Nat.reduceAdd, Nat.reduceSub, Nat.reduceLeDiff, Nat.reduceLT, Nat.reduceBEq, Nat.reduceBNe, reduceCtorEq, e0]
        simp only [ic90_9, ic90_8, ic90_7, wkA, Nat.reduceEqDiff, Nat.reduceAdd, Nat.reduceSub, Nat.reduceLeDiff, Nat.reduceLT, Nat.reduceBEq, Nat.reduceBNe, reduceCtorEq, e1, w1, List.length_map]
        refine ⟨⟨by omega, by omega⟩, ?_⟩
        refine ⟨_, whole.length + 1 - (i + 1), Gh.refl _, by omega, i + 1, 0, szs ++ [n], rfl, by omega, by omega, by simp; omega, ?_, fun h => by omega, fun _ => hS⟩
        rw [ht1, ht2]
        simp only [obN, szN, Pat.av, Pat.zero, items, wkA, Nat.reduceEqDiff, Nat.reduceAdd, Nat.reduceSub, Nat.reduceLeDiff, Nat.reduceLT, Nat.reduceBEq, Nat.reduceBNe, reduceCtorEq, List.map_append]
        rfl
    · have e0 : decide ((i : Int) ≤ (whole.length : Int)) = false := decide_eq_false (by omega)
      have hie : i = whole.length + 1 := by omega
      have ht1 : whole.take i = whole := List.take_of_length_le (by omega)
      have hsz := hS2 hie
      have hl := sizesS_len whole 0
      have hpl := plainS_len whole
      have f := fun ex => seg34 p szs whole (plainS whole) fraction point ex (by rw [← hsz]; omega) (by omega) hf hsig hall hp0
      rw [ht1, hsz]
      simp only [obN, Pat.av, Pat.zero, items, wkA, Nat.reduceEqDiff, Nat.reduceAdd, Nat.reduceSub, Nat.reduceLeDiff, Nat.reduceLT, Nat.reduceBEq, Nat.reduceBNe, reduceCtorEq] at f
      simp only [ic90_10, obN, Pat.av, Pat.zero, items, wkA, Nat.reduceEqDiff, Nat.reduceAdd, Nat.reduceSub, Nat.reduceLeDiff, Nat.reduceLT, Nat.reduceBEq, Nat.reduceBNe, reduceCtorEq, e0]
      exact f _

theorem seg36 (p : Pat) (whole fraction : List UInt8) (point : Bool) (ex : List (Nat × AV)) (hw : whole.length < 400000) (hf : fraction.length < 400000) (hsig : p.minSig = 0) (hall : point = false → fraction = []) (hp0 : p.prim = 0 ∧ p.sec = 0) (R : Except Int Pat)
    (hR : R = if 0 < countS fraction 44 then .error 5 else sizN p (sizesS whole 0) (plainS whole) fraction point) :
    VC e0 ic90_36 (qN R) ⟨(2, .box 2 0) :: (4, .box 4 0) :: (7, .bool p.sci) :: (10, .str whole) :: (11, .str fraction) :: (12, .bool point) :: ex, obN p⟩ := by
  have c1 := con118 fraction 44 (by omega)
  have h44 : (((44 : UInt8).toNat : Nat) : Int) = 44 := rfl
  rw [h44] at c1
  have e1 : decide (((countS fraction 44 : Nat) : Int) > 0) = decide (0 < countS fraction 44) := by rw [decide_eq_decide]; omega
  by_cases h : 0 < countS fraction 44
  · rw [decide_eq_true h] at e1
    rw [if_pos h] at hR
    subst hR
    simp only [ic90_36, obN, Pat.av, Pat.zero, items, wkA, Nat.reduceEqDiff, Nat.reduceAdd, Nat.reduceSub, Nat.reduceLeDiff, Nat.reduceLT, Nat.reduceBEq, Nat.reduceBNe, reduceCtorEq]
    refine callF c1 rfl ?_
    simp only [wkA, Nat.reduceEqDiff, Nat.reduceAdd, Nat.reduceSub, Nat.reduceLeDiff, Nat.reduceLT, Nat.reduceBEq, Nat.reduceBNe, reduceCtorEq, e1]
    rfl
  · rw [decide_eq_false h] at e1
    rw [if_neg h] at hR
    subst hR
    have f := fun ex => seg35 p whole fraction point ex hw hf hsig hall hp0
    simp only [obN, Pat.av, Pat.zero, items, wkA, Nat.reduceEqDiff, Nat.reduceAdd, Nat.reduceSub, Nat.reduceLeDiff, Nat.reduceLT, Nat.reduceBEq, Nat.reduceBNe, reduceCtorEq] at f
    simp only [ic90_36, obN, Pat.av, Pat.zero, items, wkA, Nat.reduceEqDiff, Nat.reduceAdd, Nat.reduceSub, Nat.reduceLeDiff, Nat.reduceLT, Nat.reduceBEq, Nat.reduceBNe, reduceCtorEq]
    refine callF c1 rfl ?_
    simp only [wkA, Nat.reduceEqDiff, Nat.reduceAdd, Nat.reduceSub, Nat.reduceLeDiff, Nat.reduceLT, Nat.reduceBEq, Nat.reduceBNe, reduceCtorEq, e1]
    exact f _
theorem cutS_len (s : List UInt8) (c : UInt8) : (cutS s c).1.length ≤ s.length ∧ (cutS s c).2.1.length ≤ s.length := by
  induction s with
  | nil => simp [cutS]
  | cons x t ih =>
    rw [cutS_cons]
    split
    · simp
    · simp; omega
theorem cutS_no (s : List UInt8) (c : UInt8) : (cutS s c).2.2 = false → (cutS s c).2.1 = [] := by
  induction s with
  | nil => intro _; rfl
  | cons x t ih =>
    rw [cutS_cons]
    split
    · intro h; simp at h
    · intro h; exact ih h
theorem seg37 (p : Pat) (body : List UInt8) (ex : List (Nat × AV)) (hb : body.length < 400000) (hsig : p.minSig = 0) (hp0 : p.prim = 0 ∧ p.sec = 0) :
    VC e0 ic90_37 (qN (fraN p (cutS body 46).1 (cutS body 46).2.1 (cutS body 46).2.2)) ⟨(2, .box 2 0) :: (4, .box 4 0) :: (5, .str body) :: (7, .bool p.sci) :: ex, obN p⟩ := by
  have c1 := con116 body 46 (by omega)
  have hl := cutS_len body 46
  have hno := cutS_no body 46
  generalize (cutS body 46).1 = whole at *
  generalize (cutS body 46).2.1 = fraction at *
  generalize (cutS body 46).2.2 = point at *
  have c2 := con118 fraction 46 (by omega)
  have h46 : (((46 : UInt8).toNat : Nat) : Int) = 46 := rfl
  rw [h46] at c1 c2
  have e1 : decide (((countS fraction 46 : Nat) : Int) > 0) = decide (0 < countS fraction 46) := by rw [decide_eq_decide]; omega
  have e2 : (fraction == []) = decide (fraction = []) := strBeq _ _
  unfold fraN
  by_cases h : 0 < countS fraction 46
  · rw [decide_eq_true h] at e1
    rw [if_pos (.inl h)]
    simp only [ic90_37, obN, Pat.av, Pat.zero, items, wkA, Nat.reduceEqDiff, Nat.reduceAdd, Nat.reduceSub, Nat.reduceLeDiff, Nat.reduceLT, Nat.reduceBEq, Nat.reduceBNe, reduceCtorEq]
    refine callF c1 rfl ?_
    simp only [wkA, Nat.reduceEqDiff, Nat.reduceAdd, Nat.reduceSub, Nat.reduceLeDiff, Nat.reduceLT, Nat.reduceBEq, Nat.reduceBNe, reduceCtorEq]
    refine callF c2 rfl ?_
    simp only [wkA, Nat.reduceEqDiff, Nat.reduceAdd, Nat.reduceSub, Nat.reduceLeDiff, Nat.reduceLT, Nat.reduceBEq, Nat.reduceBNe, reduceCtorEq, e1]
    rfl
  · rw [decide_eq_false h] at e1
    have f := fun ex => seg36 p whole fraction point ex (by omega) (by omega) hsig hno hp0 _ rfl
    simp only [obN, Pat.av, Pat.zero, items, wkA, Nat.reduceEqDiff, Nat.reduceAdd, Nat.reduceSub, Nat.reduceLeDiff, Nat.reduceLT, Nat.reduceBEq, Nat.reduceBNe, reduceCtorEq] at f
    cases hpt : point with
    | false =>
      rw [if_neg (by rintro (h1 | h1); · exact h h1
                     · simp at h1)]
      rw [hpt] at f
      simp only [ic90_37, obN, Pat.av, Pat.zero, items, wkA, Nat.reduceEqDiff, Nat.reduceAdd, Nat.reduceSub, Nat.reduceLeDiff, Nat.reduceLT, Nat.reduceBEq, Nat.reduceBNe, reduceCtorEq]
      rw [hpt] at c1
      refine callF c1 rfl ?_
      simp only [wkA, Nat.reduceEqDiff, Nat.reduceAdd, Nat.reduceSub, Nat.reduceLeDiff, Nat.reduceLT, Nat.reduceBEq, Nat.reduceBNe, reduceCtorEq]
      refine callF c2 rfl ?_
      simp only [wkA, Nat.reduceEqDiff, Nat.reduceAdd, Nat.reduceSub, Nat.reduceLeDiff, Nat.reduceLT, Nat.reduceBEq, Nat.reduceBNe, reduceCtorEq, e1]
      exact f _
    | true =>
      rw [hpt] at c1 f
      by_cases hfn : fraction = []
      · rw [decide_eq_true hfn] at e2
        rw [if_pos (.inr ⟨rfl, hfn⟩)]
        simp only [ic90_37, obN, Pat.av, Pat.zero, items, wkA, Nat.reduceEqDiff, Nat.reduceAdd, Nat.reduceSub, Nat.reduceLeDiff, Nat.reduceLT, Nat.reduceBEq, Nat.reduceBNe, reduceCtorEq]
        refine callF c1 rfl ?_
        simp only [wkA, Nat.reduceEqDiff, Nat.reduceAdd, Nat.reduceSub, Nat.reduceLeDiff, Nat.reduceLT, Nat.reduceBEq, Nat.reduceBNe, reduceCtorEq]
        refine callF c2 rfl ?_
        simp only [wkA, Nat.reduceEqDiff, Nat.reduceAdd, Nat.reduceSub, Nat.reduceLeDiff, Nat.reduceLT, Nat.reduceBEq, Nat.reduceBNe, reduceCtorEq, e1, e2]
        rfl
      · rw [decide_eq_false hfn] at e2
        rw [if_neg (by rintro (h1 | h1); · exact h h1
                       · exact hfn h1.2)]
        simp only [ic90_37, obN, Pat.av, Pat.zero, items, wkA, Nat.reduceEqDiff, Nat.reduceAdd, Nat.reduceSub, Nat.reduceLeDiff, Nat.reduceLT, Nat.reduceBEq, Nat.reduceBNe, reduceCtorEq]
        refine callF c1 rfl ?_
        simp only [wkA, Nat.reduceEqDiff, Nat.reduceAdd, Nat.reduceSub, Nat.reduceLeDiff, Nat.reduceLT, Nat.reduceBEq, Nat.reduceBNe, reduceCtorEq]
        refine callF c2 rfl ?_
        simp only [wkA, Nat.reduceEqDiff, Nat.reduceAdd, Nat.reduceSub, Nat.reduceLeDiff, Nat.reduceLT, Nat.reduceBEq, Nat.reduceBNe, reduceCtorEq, e1, e2]
        exact f _

theorem neq8 (x c : UInt8) : (((x.toNat : Nat) : Int) != ((c.toNat : Nat) : Int)) = !(x == c) := by
  rw [bne, beq8]
def I6 (p : Pat) (body : List UInt8) (j : Nat) (st : St) : Prop := ∃ i : Nat, j = body.length - i ∧ i ≤ body.length ∧ st = ⟨[(2, .box 2 0), (4, .box 4 0), (5, .str body), (7, .bool p.sci), (8, i64 i)], obN p⟩ ∧ body.all okCh = (body.drop i).all okCh
theorem seg38 (p : Pat) (body : List UInt8) (ex : List (Nat × AV)) (hb : body.length < 400000) (hsig : p.minSig = 0) (hp0 : p.prim = 0 ∧ p.sec = 0) :
    VC e0 ic90_38 (qN (bodN p body)) ⟨(2, .box 2 0) :: (4, .box 4 0) :: (5, .str body) :: (7, .bool p.sci) :: ex, obN p⟩ := by
  simp only [ic90_38, obN, Pat.av, Pat.zero, items, wkA, Nat.reduceEqDiff, Nat.reduceAdd, Nat.reduceSub, Nat.reduceLeDiff, Nat.reduceLT, Nat.reduceBEq, Nat.reduceBNe, reduceCtorEq]
  refine ⟨I6 p body, body.length, _, Gh.refl _, ⟨0, rfl, by omega, rfl, by simp⟩, ?_⟩
  rintro j st ⟨i, rfl, hi, rfl, hall⟩
  by_cases hlt : i < body.length
  · have e0 : decide ((i : Int) < (body.length : Int)) = true := decide_eq_true (by omega)
    have w1 : IntKind.i64.wrap ((i : Int) + 1) = ((i + 1 : Nat) : Int) := by rw [wrap64] <;> omega
    rw [drop_get hlt, List.all_cons] at hall
    have n1 := neq8 (body.getD i 0) 35
    have n2 := neq8 (body.getD i 0) 64
    have n3 := neq8 (body.getD i 0) 44
    have n4 := neq8 (body.getD i 0) 46
    have h35 : (((35 : UInt8).toNat : Nat) : Int) = 35 := rfl
    have h64 : (((64 : UInt8).toNat : Nat) : Int) = 64 := rfl
    have h44 : (((44 : UInt8).toNat : Nat) : Int) = 44 := rfl
    have h46 : (((46 : UInt8).toNat : Nat) : Int) = 46 := rfl
    rw [h35] at n1; rw [h64] at n2; rw [h44] at n3; rw [h46] at n4
    have next : okCh (body.getD i 0) = true → backQ (I6 p body) (body.length - i) ⟨[(2, .box 2 0), (4, .box 4 0), (5, .str body), (7, .bool p.sci), (8, i64 ((i + 1 : Nat) : Int))], obN p⟩ := by
      intro h
      rw [h, Bool.true_and] at hall
      exact ⟨_, body.length - (i + 1), Gh.refl _, by omega, i + 1, rfl, by omega, rfl, hall⟩
    have stop : okCh (body.getD i 0) = false → bodN p body = .error 4 := by
      intro h
      rw [h, Bool.false_and] at hall
      rw [bodN, if_pos hall]
    unfold okCh at next stop
    simp only [obN, Pat.av, Pat.zero, items, wkA, Nat.reduceEqDiff, Nat.reduceAdd, Nat.reduceSub, Nat.reduceLeDiff, Nat.reduceLT, Nat.reduceBEq, Nat.reduceBNe, reduceCtorEq] at next
    cases h1 : (body.getD i 0 == 35) with
    | true =>
      rw [h1, Bool.not_true] at n1
      rw [h1] at next
      simp only [ic90_6, obN, Pat.av, Pat.zero, items, wkA, Nat.reduceEqDiff, Nat.reduceAdd, Nat.reduceSub, Nat.reduceLeDiff, Nat.reduceLT, Nat.reduceBEq, Nat.reduceBNe, reduceCtorEq, e0]
      simp only [ic90_5, ic90_4, wkA, Nat.reduceEqDiff, Nat.reduceAdd, Nat.reduceSub, Nat.reduceLeDiff, Nat.reduceLT, Nat.reduceBEq, Nat.reduceBNe, reduceCtorEq, Int.toNat_natCast, n1, w1]
      exact ⟨⟨by omega, by omega⟩, next rfl⟩
    | false =>
      rw [h1, Bool.not_false] at n1
      rw [h1, Bool.false_or] at next stop
      cases h2 : (body.getD i 0 == 64) with
      | true =>
        rw [h2, Bool.not_true] at n2
        rw [h2] at next
        simp only [ic90_6, obN, Pat.av, Pat.zero, items, wkA, Nat.reduceEqDiff, Nat.reduceAdd, Nat.reduceSub, Nat.reduceLeDiff, Nat.reduceLT, Nat.reduceBEq, Nat.reduceBNe, reduceCtorEq, e0]
        simp only [ic90_5, ic90_4, wkA, Nat.reduceEqDiff, Nat.reduceAdd, Nat.reduceSub, Nat.reduceLeDiff, Nat.reduceLT, Nat.reduceBEq, Nat.reduceBNe, reduceCtorEq, Int.toNat_natCast, n1, n2, w1]
        exact ⟨⟨by omega, by omega⟩, next rfl⟩
      | false =>
        rw [h2, Bool.not_false] at n2
        rw [h2, Bool.false_or] at next stop
        cases h3 : (body.getD i 0 == 44) with
        | true =>
          rw [h3, Bool.not_true] at n3
          rw [h3] at next
          simp only [ic90_6, obN, Pat.av, Pat.zero, items, wkA, Nat.reduceEqDiff, Nat.reduceAdd, Nat.reduceSub, Nat.reduceLeDiff, Nat.reduceLT, Nat.reduceBEq, Nat.reduceBNe, reduceCtorEq, e0]
          simp only [ic90_5, ic90_4, wkA, Nat.reduceEqDiff, Nat.reduceAdd, Nat.reduceSub, Nat.reduceLeDiff, Nat.reduceLT, Nat.reduceBEq, Nat.reduceBNe, reduceCtorEq, Int.toNat_natCast, n1, n2, n3, w1]
          exact ⟨⟨by omega, by omega⟩, next rfl⟩
        | false =>
          rw [h3, Bool.not_false] at n3
          rw [h3, Bool.false_or] at next stop
          cases h4 : (body.getD i 0 == 46) with
          | true =>
            rw [h4, Bool.not_true] at n4
            rw [h4] at next
            simp only [ic90_6, obN, Pat.av, Pat.zero, items, wkA, Nat.reduceEqDiff, Nat.reduceAdd, Nat.reduceSub, Nat.reduceLeDiff, Nat.reduceLT, Nat.reduceBEq, Nat.reduceBNe, reduceCtorEq, e0]
            simp only [ic90_5, ic90_4, wkA, Nat.reduceEqDiff, Nat.reduceAdd, Nat.reduceSub, Nat.reduceLeDiff, Nat.reduceLT, Nat.reduceBEq, Nat.reduceBNe, reduceCtorEq, Int.toNat_natCast, n1, n2, n3, n4, w1]
            exact ⟨⟨by omega, by omega⟩, next rfl⟩
          | false =>
            rw [h4, Bool.not_false] at n4
            rw [h4, Bool.false_or] at next stop
            by_cases h5 : (body.getD i 0).toNat < 48
            · have e5 : decide ((((body.getD i 0).toNat : Nat) : Int) < 48) = true := decide_eq_true (by omega)
              have hd : isDg (body.getD i 0) = false := by
                cases h : isDg (body.getD i 0) with
                | false => rfl
                | true => have := isDg_iff.1 h; omega
              rw [stop hd]
              simp only [ic90_6, obN, Pat.av, Pat.zero, items, wkA, Nat.reduceEqDiff, Nat.reduceAdd, Nat.reduceSub, Nat.reduceLeDiff, Nat.reduceLT, Nat.reduceBEq, Nat.reduceBNe, reduceCtorEq, e0]
              simp only [ic90_5, ic90_4, wkA, Nat.reduceEqDiff, Nat.reduceAdd, Nat.reduceSub, Nat.reduceLeDiff, Nat.reduceLT, Nat.reduceBEq, Nat.reduceBNe, reduceCtorEq, Int.toNat_natCast, n1, n2, n3, n4, e5]
              refine ⟨⟨by omega, by omega⟩, ?_⟩
              rfl
            · have e5 : decide ((((body.getD i 0).toNat : Nat) : Int) < 48) = false := decide_eq_false (by omega)
              by_cases h6 : 57 < (body.getD i 0).toNat
              · have e6 : decide ((((body.getD i 0).toNat : Nat) : Int) > 57) = true := decide_eq_true (by omega)
                have hd : isDg (body.getD i 0) = false := by
                  cases h : isDg (body.getD i 0) with
                  | false => rfl
                  | true => have := isDg_iff.1 h; omega
                rw [stop hd]
                simp only [ic90_6, obN, Pat.av, Pat.zero, items, wkA, Nat.reduceEqDiff, Nat.reduceAdd, Nat.reduceSub, Nat.reduceLeDiff, Nat.reduceLT, Nat.reduceBEq, Nat.reduceBNe, reduceCtorEq, e0]
                simp only [ic90_5, ic90_4, wkA, Nat.reduceEqDiff, Nat.reduceAdd, Nat.reduceSub, Nat.reduceLeDiff, Nat.reduceLT, Nat.reduceBEq, Nat.reduceBNe, reduceCtorEq, Int.toNat_natCast, n1, n2, n3, n4, e5, e6]
                refine ⟨⟨by omega, by omega⟩, ?_⟩
                rfl
              · have e6 : decide ((((body.getD i 0).toNat : Nat) : Int) > 57) = false := decide_eq_false (by omega)
                have hd : isDg (body.getD i 0) = true := isDg_iff.2 ⟨by omega, by omega⟩
                simp only [ic90_6, obN, Pat.av, Pat.zero, items, wkA, Nat.reduceEqDiff, Nat.reduceAdd, Nat.reduceSub, Nat.reduceLeDiff, Nat.reduceLT, Nat.reduceBEq, Nat.reduceBNe, reduceCtorEq, e0]
                simp only [ic90_5, ic90_4, wkA, Nat.reduceEqDiff, Nat.reduceAdd, Nat.reduceSub, Nat.reduceLeDiff, Nat.reduceLT, Nat.reduceBEq, Nat.reduceBNe, reduceCtorEq, Int.toNat_natCast, n1, n2, n3, n4, e5, e6, w1]
                exact ⟨⟨by omega, by omega⟩, next hd⟩
  · have e0 : decide ((i : Int) < (body.length : Int)) = false := decide_eq_false (by omega)
    have hd : body.drop i = [] := List.drop_of_length_le (by omega)
    rw [hd] at hall
    have hres : bodN p body = fraN p (cutS body 46).1 (cutS body 46).2.1 (cutS body 46).2.2 := by rw [bodN, if_neg (by rw [hall]; simp)]
    rw [hres]
    have f := fun ex => seg37 p body ex hb hsig hp0
    simp only [obN, Pat.av, Pat.zero, items, wkA, Nat.reduceEqDiff, Nat.reduceAdd, Nat.reduceSub, Nat.reduceLeDiff, Nat.reduceLT, Nat.reduceBEq, Nat.reduceBNe, reduceCtorEq] at f
    simp only [ic90_6, obN, Pat.av, Pat.zero, items, wkA, Nat.reduceEqDiff, Nat.reduceAdd, Nat.reduceSub, Nat.reduceLeDiff, Nat.reduceLT, Nat.reduceBEq, Nat.reduceBNe, reduceCtorEq, e0]
    exact f _

theorem seg38b (p : Pat) (body e6 : List UInt8) (ex : List (Nat × AV)) (hb : body.length < 400000) (hsig : p.minSig = 0) (hp0 : p.prim = 0 ∧ p.sec = 0) :
    VC e0 ic90_38 (qN (bodN p body)) ⟨(2, .box 2 0) :: (4, .box 4 0) :: (5, .str body) :: (6, .str e6) :: (7, .bool p.sci) :: ex, obN p⟩ := by
  simp only [ic90_38, obN, Pat.av, Pat.zero, items, wkA, Nat.reduceEqDiff, Nat.reduceAdd, Nat.reduceSub, Nat.reduceLeDiff, Nat.reduceLT, Nat.reduceBEq, Nat.reduceBNe, reduceCtorEq]
  refine ⟨I6 p body, body.length, _, Gh.refl _, ⟨0, rfl, by omega, rfl, by simp⟩, ?_⟩
  rintro j st ⟨i, rfl, hi, rfl, hall⟩
  by_cases hlt : i < body.length
  · have e0 : decide ((i : Int) < (body.length : Int)) = true := decide_eq_true (by omega)
    have w1 : IntKind.i64.wrap ((i : Int) + 1) = ((i + 1 : Nat) : Int) := by rw [wrap64] <;> omega
    rw [drop_get hlt, List.all_cons] at hall
    have n1 := neq8 (body.getD i 0) 35
    have n2 := neq8 (body.getD i 0) 64
    have n3 := neq8 (body.getD i 0) 44
    have n4 := neq8 (body.getD i 0) 46
    have h35 : (((35 : UInt8).toNat : Nat) : Int) = 35 := rfl
    have h64 : (((64 : UInt8).toNat : Nat) : Int) = 64 := rfl
    have h44 : (((44 : UInt8).toNat : Nat) : Int) = 44 := rfl
    have h46 : (((46 : UInt8).toNat : Nat) : Int) = 46 := rfl
    rw [h35] at n1; rw [h64] at n2; rw [h44] at n3; rw [h46] at n4
    have next : okCh (body.getD i 0) = true → backQ (I6 p body) (body.length - i) ⟨[(2, .box 2 0), (4, .box 4 0), (5, .str body), (7, .bool p.sci), (8, i64 ((i + 1 : Nat) : Int))], obN p⟩ := by
      intro h
      rw [h, Bool.true_and] at hall
      exact ⟨_, body.length - (i + 1), Gh.refl _, by omega, i + 1, rfl, by omega, rfl, hall⟩
    have stop : okCh (body.getD i 0) = false → bodN p body = .error 4 := by
      intro h
      rw [h, Bool.false_and] at hall
      rw [bodN, if_pos hall]
    unfold okCh at next stop
    simp only [obN, Pat.av, Pat.zero, items, wkA, Nat.reduceEqDiff, Nat.reduceAdd, Nat.reduceSub, Nat.reduceLeDiff, Nat.reduceLT, Nat.reduceBEq, Nat.reduceBNe, reduceCtorEq] at next
    cases h1 : (body.getD i 0 == 35) with
    | true =>
      rw [h1, Bool.not_true] at n1
      rw [h1] at next
      simp only [ic90_6, obN, Pat.av, Pat.zero, items, wkA, Nat.reduceEqDiff, Nat.reduceAdd, Nat.reduceSub, Nat.reduceLeDiff, Nat.reduceLT, Nat.reduceBEq, Nat.reduceBNe, reduceCtorEq, e0]
      simp only [ic90_5, ic90_4, wkA, Nat.reduceEqDiff, Nat.reduceAdd, Nat.reduceSub, Nat.reduceLeDiff, Nat.reduceLT, Nat.reduceBEq, Nat.reduceBNe, reduceCtorEq, Int.toNat_natCast, n1, w1]
      exact ⟨⟨by omega, by omega⟩, next rfl⟩
    | false =>
      rw [h1, Bool.not_false] at n1
      rw [h1, Bool.false_or] at next stop
      cases h2 : (body.getD i 0 == 64) with
      | true =>
        rw [h2, Bool.not_true] at n2
        rw [h2] at next
        simp only [ic90_6, obN, Pat.av, Pat.zero, items, wkA, Nat.reduceEqDiff, Nat.reduceAdd, Nat.reduceSub, Nat.reduceLeDiff, Nat.reduceLT, Nat.reduceBEq, Nat.reduceBNe, reduceCtorEq, e0]
        simp only [ic90_5, ic90_4, wkA, Nat.reduceEqDiff, Nat.reduceAdd, Nat.reduceSub, Nat.reduceLeDiff, Nat.reduceLT, Nat.reduceBEq, Nat.reduceBNe, reduceCtorEq, Int.toNat_natCast, n1, n2, w1]
        exact ⟨⟨by omega, by omega⟩, next rfl⟩
      | false =>
        rw [h2, Bool.not_false] at n2
        rw [h2, Bool.false_or] at next stop
        cases h3 : (body.getD i 0 == 44) with
        | true =>
          rw [h3, Bool.not_true] at n3
          rw [h3] at next
          simp only [ic90_6, obN, Pat.av, Pat.zero, items, wkA, Nat.reduceEqDiff, Nat.reduceAdd, Nat.reduceSub, Nat.reduceLeDiff, Nat.reduceLT, Nat.reduceBEq, Nat.reduceBNe, reduceCtorEq, e0]
          simp only [ic90_5, ic90_4, wkA, Nat.reduceEqDiff, Nat.reduceAdd, Nat.reduceSub, Nat.reduceLeDiff, Nat.reduceLT, Nat.reduceBEq, Nat.reduceBNe, reduceCtorEq, Int.toNat_natCast, n1, n2, n3, w1]
          exact ⟨⟨by omega, by omega⟩, next rfl⟩
        | false =>
          rw [h3, Bool.not_false] at n3
          rw [h3, Bool.false_or] at next stop
          cases h4 : (body.getD i 0 == 46) with
          | true =>
            rw [h4, Bool.not_true] at n4
            rw [h4] at next
            simp only [ic90_6, obN, Pat.av, Pat.zero, items, wkA, Nat.reduceEqDiff, Nat.reduceAdd, Nat.reduceSub, Nat.reduceLeDiff, Nat.reduceLT, Nat.reduceBEq, Nat.reduceBNe, reduceCtorEq, e0]
            simp only [ic90_5, ic90_4, wkA, Nat.reduceEqDiff, Nat.reduceAdd, Nat.reduceSub, Nat.reduceLeDiff, Nat.reduceLT, Nat.reduceBEq, Nat.reduceBNe, reduceCtorEq, Int.toNat_natCast, n1, n2, n3, n4, w1]
            exact ⟨⟨by omega, by omega⟩, next rfl⟩
          | false =>
            rw [h4, Bool.not_false] at n4
            rw [h4, Bool.false_or] at next stop
            by_cases h5 : (body.getD i 0).toNat < 48
            · have e5 : decide ((((body.getD i 0).toNat : Nat) : Int) < 48) = true := decide_eq_true (by omega)
              have hd : isDg (body.getD i 0) = false := by
                cases h : isDg (body.getD i 0) with
                | false => rfl
                | true => have := isDg_iff.1 h; omega
              rw [stop hd]
              simp only [ic90_6, obN, Pat.av, Pat.zero, items, wkA, Nat.reduceEqDiff, Nat.reduceAdd, Nat.reduceSub, Nat.reduceLeDiff, Nat.reduceLT, Nat.reduceBEq, Nat.reduceBNe, reduceCtorEq, e0]
              simp only [ic90_5, ic90_4, wkA, Nat.reduceEqDiff, Nat.reduceAdd, Nat.reduceSub, Nat.reduceLeDiff, Nat.reduceLT, Nat.reduceBEq, Nat.reduceBNe, reduceCtorEq, Int.toNat_natCast, n1, n2, n3, n4, e5]
              refine ⟨⟨by omega, by omega⟩, ?_⟩
              rfl
            · have e5 : decide ((((body.getD i 0).toNat : Nat) : Int) < 48) = false := decide_eq_false (by omega)
              by_cases h6 : 57 < (body.getD i 0).toNat
              · have e6 : decide ((((body.getD i 0).toNat : Nat) : Int) > 57) = true := decide_eq_true (by omega)
                have hd : isDg (body.getD i 0) = false := by
                  cases h : isDg (body.getD i 0) with
                  | false => rfl
                  | true => have := isDg_iff.1 h; omega
                rw [stop hd]
                simp only [ic90_6, obN, Pat.av, Pat.zero, items, wkA, Nat.reduceEqDiff, Nat.reduceAdd, Nat.reduceSub, Nat.reduceLeDiff, Nat.reduceLT, Nat.reduceBEq, Nat.reduceBNe, reduceCtorEq, e0]
                simp only [ic90_5, ic90_4, wkA, Nat.reduceEqDiff, Nat.reduceAdd, Nat.reduceSub, Nat.reduceLeDiff, Nat.reduceLT, Nat.reduceBEq, Nat.reduceBNe, reduceCtorEq, Int.toNat_natCast, n1, n2, n3, n4, e5, e6]
                refine ⟨⟨by omega, by omega⟩, ?_⟩
                rfl
              · have e6 : decide ((((body.getD i 0).toNat : Nat) : Int) > 57) = false := decide_eq_false (by omega)
                have hd : isDg (body.getD i 0) = true := isDg_iff.2 ⟨by omega, by omega⟩
                simp only [ic90_6, obN, Pat.av, Pat.zero, items, wkA, Nat.reduceEqDiff, Nat.reduceAdd, Nat.reduceSub, Nat.reduceLeDiff, Nat.reduceLT, Nat.reduceBEq, Nat.reduceBNe, reduceCtorEq, e0]
                simp only [ic90_5, ic90_4, wkA, Nat.reduceEqDiff, Nat.reduceAdd, Nat.reduceSub, Nat.reduceLeDiff, Nat.reduceLT, Nat.reduceBEq, Nat.reduceBNe, reduceCtorEq, Int.toNat_natCast, n1, n2, n3, n4, e5, e6, w1]
                exact ⟨⟨by omega, by omega⟩, next hd⟩
  · have e0 : decide ((i : Int) < (body.length : Int)) = false := decide_eq_false (by omega)
    have hd : body.drop i = [] := List.drop_of_length_le (by omega)
    rw [hd] at hall
    have hres : bodN p body = fraN p (cutS body 46).1 (cutS body 46).2.1 (cutS body 46).2.2 := by rw [bodN, if_neg (by rw [hall]; simp)]
    rw [hres]
    have f := fun ex => seg37 p body ex hb hsig hp0
    simp only [obN, Pat.av, Pat.zero, items, wkA, Nat.reduceEqDiff, Nat.reduceAdd, Nat.reduceSub, Nat.reduceLeDiff, Nat.reduceLT, Nat.reduceBEq, Nat.reduceBNe, reduceCtorEq] at f
    simp only [ic90_6, obN, Pat.av, Pat.zero, items, wkA, Nat.reduceEqDiff, Nat.reduceAdd, Nat.reduceSub, Nat.reduceLeDiff, Nat.reduceLT, Nat.reduceBEq, Nat.reduceBNe, reduceCtorEq, e0]
    exact f _

theorem seg3 (plus : Bool) (e body : List UInt8) (ex : List (Nat × AV)) (hb : body.length < 400000) (he : e.length < 400000) :
    VC e0 ic90_3 (thenQ (VC e0 ic90_38 (qN (ex3N plus e body))) (qN (ex3N plus e body))) ⟨(2, .box 2 0) :: (4, .box 4 0) :: (5, .str body) :: (6, .str e) :: (7, .bool true) :: ex, obN { Pat.zero with plusExp := plus }⟩ := by
  have c117 := con117 e (by omega)
  have e1 : (e == []) = decide (e = []) := strBeq _ _
  have e2 : (strip e != []) = decide (strip e ≠ []) := by rw [Bool.eq_iff_iff, bne_iff_ne, decide_eq_true_eq]
  unfold ex3N
  by_cases h1 : e = []
  · rw [decide_eq_true h1] at e1
    rw [if_pos (.inl h1)]
    simp only [ic90_3, obN, Pat.av, Pat.zero, items, wkA, Nat.reduceEqDiff, Nat.reduceAdd, Nat.reduceSub, Nat.reduceLeDiff, Nat.reduceLT, Nat.reduceBEq, Nat.reduceBNe, reduceCtorEq, e1]
    rfl
  · rw [decide_eq_false h1] at e1
    by_cases h2 : strip e ≠ []
    · rw [decide_eq_true h2] at e2
      rw [if_pos (.inr h2)]
      simp only [ic90_3, obN, Pat.av, Pat.zero, items, wkA, Nat.reduceEqDiff, Nat.reduceAdd, Nat.reduceSub, Nat.reduceLeDiff, Nat.reduceLT, Nat.reduceBEq, Nat.reduceBNe, reduceCtorEq, e1]
      refine callF c117 rfl ?_
      simp only [wkA, Nat.reduceEqDiff, Nat.reduceAdd, Nat.reduceSub, Nat.reduceLeDiff, Nat.reduceLT, Nat.reduceBEq, Nat.reduceBNe, reduceCtorEq, e2]
      rfl
    · rw [decide_eq_false h2] at e2
      rw [if_neg (by rintro (h | h); · exact h1 h
                     · exact h2 h)]
      by_cases h3 : 9 < e.length
      · have e3 : decide (((e.length : Nat) : Int) > 9) = true := decide_eq_true (by omega)
        rw [if_pos h3]
        simp only [ic90_3, obN, Pat.av, Pat.zero, items, wkA, Nat.reduceEqDiff, Nat.reduceAdd, Nat.reduceSub, Nat.reduceLeDiff, Nat.reduceLT, Nat.reduceBEq, Nat.reduceBNe, reduceCtorEq, e1]
        refine callF c117 rfl ?_
        simp only [wkA, Nat.reduceEqDiff, Nat.reduceAdd, Nat.reduceSub, Nat.reduceLeDiff, Nat.reduceLT, Nat.reduceBEq, Nat.reduceBNe, reduceCtorEq, e2]
        simp only [ic90_2, wkA, Nat.reduceEqDiff, Nat.reduceAdd, Nat.reduceSub, Nat.reduceLeDiff, Nat.reduceLT, Nat.reduceBEq, Nat.reduceBNe, reduceCtorEq, e3]
        rfl
      · have e3 : decide (((e.length : Nat) : Int) > 9) = false := decide_eq_false (by omega)
        rw [if_neg h3]
        have f := fun ex => seg38 { Pat.zero with plusExp := plus, sci := true, minExp := e.length } body ex hb rfl ⟨rfl, rfl⟩
        simp only [obN, Pat.av, Pat.zero, items, wkA, Nat.reduceEqDiff, Nat.reduceAdd, Nat.reduceSub, Nat.reduceLeDiff, Nat.reduceLT, Nat.reduceBEq, Nat.reduceBNe, reduceCtorEq] at f
        simp only [ic90_3, obN, Pat.av, Pat.zero, items, wkA, Nat.reduceEqDiff, Nat.reduceAdd, Nat.reduceSub, Nat.reduceLeDiff, Nat.reduceLT, Nat.reduceBEq, Nat.reduceBNe, reduceCtorEq, e1]
        refine callF c117 rfl ?_
        simp only [wkA, Nat.reduceEqDiff, Nat.reduceAdd, Nat.reduceSub, Nat.reduceLeDiff, Nat.reduceLT, Nat.reduceBEq, Nat.reduceBNe, reduceCtorEq, e2]
        simp only [ic90_2, wkA, Nat.reduceEqDiff, Nat.reduceAdd, Nat.reduceSub, Nat.reduceLeDiff, Nat.reduceLT, Nat.reduceBEq, Nat.reduceBNe, reduceCtorEq, e3]
        simp only [ic90_1, wkA, Nat.reduceEqDiff, Nat.reduceAdd, Nat.reduceSub, Nat.reduceLeDiff, Nat.reduceLT, Nat.reduceBEq, Nat.reduceBNe, reduceCtorEq]
        exact f _

theorem con90N {s : List UInt8} (hl : s.length < 400000) : Fn 90 [.str s] (resN (numN s)) := by
  have c1 := con116 s 69 (by omega)
  have h69 : (((69 : UInt8).toNat : Nat) : Int) = 69 := rfl
  rw [h69] at c1
  have hlen := cutS_len s 69
  unfold numN
  generalize (cutS s 69).1 = body at *
  generalize (cutS s 69).2.1 = e at *
  generalize (cutS s 69).2.2 = sci at *
  refine e90 (by simp) ?_
  cases sci with
  | false =>
    rw [if_neg (by simp)]
    have f := fun ex => seg38b Pat.zero body e ex (by omega) rfl ⟨rfl, rfl⟩
    simp only [obN, Pat.av, Pat.zero, items, wkA, Nat.reduceEqDiff, Nat.reduceAdd, Nat.reduceSub, Nat.reduceLeDiff, Nat.reduceLT, Nat.reduceBEq, Nat.reduceBNe, reduceCtorEq] at f
    simp only [ic90, wkA, Nat.reduceEqDiff, Nat.reduceAdd, Nat.reduceSub, Nat.reduceLeDiff, Nat.reduceLT, Nat.reduceBEq, Nat.reduceBNe, reduceCtorEq]
    refine callF c1 rfl ?_
    simp only [wkA, Nat.reduceEqDiff, Nat.reduceAdd, Nat.reduceSub, Nat.reduceLeDiff, Nat.reduceLT, Nat.reduceBEq, Nat.reduceBNe, reduceCtorEq]
    exact f _
  | true =>
    rw [if_pos rfl]
    cases e with
    | nil =>
      rw [if_neg (by simp)]
      have e0' : decide (((0 : Nat) : Int) > 0) = false := rfl
      have f := fun ex => seg3 false [] body ex (by omega) (by simp)
      simp only [obN, Pat.av, Pat.zero, items, wkA, Nat.reduceEqDiff, Nat.reduceAdd, Nat.reduceSub, Nat.reduceLeDiff, Nat.reduceLT, Nat.reduceBEq, Nat.reduceBNe, reduceCtorEq] at f
      simp only [ic90, wkA, Nat.reduceEqDiff, Nat.reduceAdd, Nat.reduceSub, Nat.reduceLeDiff, Nat.reduceLT, Nat.reduceBEq, Nat.reduceBNe, reduceCtorEq]
      refine callF c1 rfl ?_
      simp only [wkA, Nat.reduceEqDiff, Nat.reduceAdd, Nat.reduceSub, Nat.reduceLeDiff, Nat.reduceLT, Nat.reduceBEq, Nat.reduceBNe, reduceCtorEq, e0']
      exact f _
    | cons c t =>
      have e0' : decide (((t.length + 1 : Nat) : Int) > 0) = true := decide_eq_true (by omega)
      have hc := beq8 c 43
      have h43 : (((43 : UInt8).toNat : Nat) : Int) = 43 := rfl
      have g0 : (c :: t).getD 0 0 = c := rfl
      rw [h43] at hc
      have htk : ((c :: t).drop 1).take (t.length + 1 - 1) = t := by simp
      have hl2 : (c :: t).length = t.length + 1 := rfl
      cases h1 : (c == 43) with
      | true =>
        rw [h1] at hc
        rw [if_pos (by simpa using h1)]
        have f := fun ex => seg3 true t body ex (by omega) (by simp at hlen; omega)
        simp only [obN, Pat.av, Pat.zero, items, wkA, Nat.reduceEqDiff, Nat.reduceAdd, Nat.reduceSub, Nat.reduceLeDiff, Nat.reduceLT, Nat.reduceBEq, Nat.reduceBNe, reduceCtorEq] at f
        simp only [ic90, wkA, Nat.reduceEqDiff, Nat.reduceAdd, Nat.reduceSub, Nat.reduceLeDiff, Nat.reduceLT, Nat.reduceBEq, Nat.reduceBNe, reduceCtorEq]
        refine callF c1 rfl ?_
        simp only [wkA, Nat.reduceEqDiff, Nat.reduceAdd, Nat.reduceSub, Nat.reduceLeDiff, Nat.reduceLT, Nat.reduceBEq, Nat.reduceBNe, reduceCtorEq, e0', Int.toNat_zero, g0, hc]
        have htk2 : List.take (((t.length + 1 : Nat) : Int).toNat - Int.toNat 1) (List.drop (Int.toNat 1) (c :: t)) = t := by simp
        rw [htk2]
        exact ⟨by omega, ⟨by omega, by omega, by omega⟩, f _⟩
      | false =>
        rw [h1] at hc
        rw [if_neg (by simpa using h1)]
        have f := fun ex => seg3 false (c :: t) body ex (by omega) (by simp at hlen ⊢; omega)
        simp only [obN, Pat.av, Pat.zero, items, wkA, Nat.reduceEqDiff, Nat.reduceAdd, Nat.reduceSub, Nat.reduceLeDiff, Nat.reduceLT, Nat.reduceBEq, Nat.reduceBNe, reduceCtorEq] at f
        simp only [ic90, wkA, Nat.reduceEqDiff, Nat.reduceAdd, Nat.reduceSub, Nat.reduceLeDiff, Nat.reduceLT, Nat.reduceBEq, Nat.reduceBNe, reduceCtorEq]
        refine callF c1 rfl ?_
        simp only [wkA, Nat.reduceEqDiff, Nat.reduceAdd, Nat.reduceSub, Nat.reduceLeDiff, Nat.reduceLT, Nat.reduceBEq, Nat.reduceBNe, reduceCtorEq, e0', Int.toNat_zero, g0, hc]
        exact ⟨by omega, f _⟩
theorem con90 {s : List UInt8} (hl : s.length < 400000) : Fn 90 [.str s] (resN (numberS s)) := con90N hl
end Go.Proofs.YtgehlcgjchfibaaGreatDoor.F

namespace Go.Proofs.YtgehlcgjchfibaaGreatDoor.F

structure NumOk (p : Pat) : Prop where
  cnt : p.minInt ≤ 40 ∧ p.maxInt ≤ 40 ∧ p.minFrac ≤ p.maxFrac ∧ p.maxFrac ≤ 40 ∧ p.minSig ≤ p.maxSig ∧ p.maxSig ≤ 40
  inc : dgs p.inc = true ∧ p.inc.length ≤ 40 ∧ (p.inc ≠ [] → dv p.inc ≠ 0)
  step : p.inc ≠ [] → p.minFrac = p.maxFrac ∧ p.sci = false
  sig : 0 < p.minSig → p.minInt = 0 ∧ p.maxFrac = 0 ∧ p.maxInt = 0 ∧ p.inc = []
  whole : p.sci = false → p.maxInt = 0
  items : p.pre = [] ∧ p.suf = [] ∧ p.npre = [] ∧ p.nsuf = []

theorem longN_ok {p q : Pat} (h : longN p = .ok q) : q = p ∧ p.minInt ≤ 40 ∧ p.maxInt ≤ 40 ∧ p.maxFrac ≤ 40 ∧ p.maxSig ≤ 40 ∧ p.inc.length ≤ 40 := by
  unfold longN at h
  split at h
  · cases h
  · injection h with h
    exact ⟨h.symm, by omega, by omega, by omega, by omega, by omega⟩
theorem mixN_ok {p q : Pat} {sizes : List Nat} {plain : List UInt8} (h : mixN p sizes plain = .ok q) : q = p ∧ p.minInt ≤ 40 ∧ p.maxInt ≤ 40 ∧ p.maxFrac ≤ 40 ∧ p.maxSig ≤ 40 ∧ p.inc.length ≤ 40 := by
  unfold mixN at h
  split at h
  · cases h
  · exact longN_ok h
theorem countS_le (s : List UInt8) (c : UInt8) : countS s c ≤ s.length := List.length_filter_le _ _
theorem countS_zero {s : List UInt8} {c : UInt8} (h : ¬ 0 < countS s c) : ∀ x ∈ s, (x == c) = false := by
  intro x hx
  have h0 : s.filter (isC c) = [] := List.eq_nil_of_length_eq_zero (by unfold countS at h; omega)
  have := List.filter_eq_nil_iff.1 h0 x hx
  cases h1 : (x == c) with
  | false => rfl
  | true => exact absurd (by simp [isC, h1]) this
theorem tagN_count (s : List UInt8) : countS s 64 ≤ (tagN s).length := by
  induction s with
  | nil => simp [countS]
  | cons x t ih =>
    unfold tagN at ih ⊢
    rw [List.dropWhile_cons]
    by_cases h : x = 35
    · subst h
      rw [if_pos (by rfl)]
      have : countS (35 :: t) 64 = countS t 64 := by
        unfold countS
        rw [List.filter_cons, if_neg (by decide)]
      omega
    · rw [if_neg (by simpa using h)]
      exact countS_le _ _
theorem cut_mem (s : List UInt8) (c : UInt8) : (∀ x ∈ (cutS s c).1, x ∈ s ∧ x ≠ c) ∧ ∀ x ∈ (cutS s c).2.1, x ∈ s := by
  induction s with
  | nil => simp [cutS]
  | cons y t ih =>
    rw [cutS]
    split
    · exact ⟨by simp, fun x hx => by simp only at hx; exact List.mem_cons_of_mem _ hx⟩
    · rename_i hne
      refine ⟨fun x hx => ?_, fun x hx => List.mem_cons_of_mem _ (ih.2 x hx)⟩
      simp only [List.mem_cons] at hx ⊢
      rcases hx with rfl | hx
      · exact ⟨.inl rfl, hne⟩
      · exact ⟨.inr (ih.1 x hx).1, (ih.1 x hx).2⟩
theorem dv_strip_ne {d : List UInt8} (h : dgs d = true) (h2 : strip d ≠ []) : dv (strip d) ≠ 0 := by
  intro h0
  rw [dv_strip] at h0
  have := digs_dv h
  rw [h0, digs_zero] at this
  exact h2 this.symm

theorem choN_ok {p q : Pat} {sizes : List Nat} {plain fraction : List UInt8} {point : Bool} (hall : ∀ x ∈ plain ++ fraction, okCh x = true ∧ x ≠ 46 ∧ x ≠ 44)
    (hp : p.minInt = 0 ∧ p.maxInt = 0 ∧ p.minFrac = 0 ∧ p.maxFrac = 0 ∧ p.minSig = 0 ∧ p.maxSig = 0 ∧ p.inc = [] ∧ p.pre = [] ∧ p.suf = [] ∧ p.npre = [] ∧ p.nsuf = [])
    (h : choN p sizes plain fraction (plain ++ fraction) point = .ok q) : NumOk q := by
  obtain ⟨h1, h2, h3, h4, h5, h6, h7, h8, h9, h10, h11⟩ := hp
  unfold choN at h
  split at h
  · split at h
    · cases h
    · split at h
      · cases h
      · obtain ⟨rfl, b1, b2, b3, b4, b5⟩ := mixN_ok h
        have := tagN_count plain
        simp only at b1 b2 b3 b4 b5
        exact ⟨by simp only; omega, by simp only [h7]; exact ⟨rfl, by simp, fun h => absurd rfl h⟩, by simp only [h7]; intro h; exact absurd rfl h, fun _ => ⟨h1, h4, h2, h7⟩, fun _ => h2, h8, h9, h10, h11⟩
  · rename_i h64
    split at h
    · cases h
    · unfold aftN at h
      split at h
      · cases h
      · rename_i hinc
        obtain ⟨rfl, b1, b2, b3, b4, b5⟩ := mixN_ok h
        simp only at b1 b2 b3 b4 b5 hinc
        have hd : dgs (incN (plain ++ fraction)) = true := by
          rw [dgs_mem]
          intro x hx
          unfold incN at hx
          obtain ⟨hx1, hx2⟩ := List.mem_filter.1 hx
          obtain ⟨c1, c2, c3⟩ := hall x hx1
          have c4 := countS_zero h64 x hx1
          unfold okCh at c1
          have e1 : (x == 35) = false := by simpa using hx2
          have e2 : (x == 44) = false := beq_eq_false_iff_ne.2 c3
          have e3 : (x == 46) = false := beq_eq_false_iff_ne.2 c2
          rw [e1, c4, e2, e3] at c1
          simpa using c1
        have hf := countS_le fraction 48
        refine ⟨by simp only; omega, ⟨by simp only; exact dgs_strip hd, b5, by simp only; exact fun h => dv_strip_ne hd h⟩, ?_, ?_, ?_, h8, h9, h10, h11⟩
        · simp only
          intro hne
          refine ⟨?_, ?_⟩
          · refine Classical.not_not.1 fun hh => hinc ⟨hne, .inl (by omega)⟩
          · cases hs : p.sci with
            | false => rfl
            | true => exact absurd ⟨hne, .inr hs⟩ hinc
        · simp only
          intro hh; omega
        · simp only
          intro hh
          rw [if_neg (by rw [hh]; simp)]
          exact h2
theorem bodN_ok {p q : Pat} {body : List UInt8}
    (hp : p.minInt = 0 ∧ p.maxInt = 0 ∧ p.minFrac = 0 ∧ p.maxFrac = 0 ∧ p.minSig = 0 ∧ p.maxSig = 0 ∧ p.inc = [] ∧ p.pre = [] ∧ p.suf = [] ∧ p.npre = [] ∧ p.nsuf = [])
    (h : bodN p body = .ok q) : NumOk q := by
  unfold bodN at h
  split at h
  · cases h
  · rename_i hb
    have hb : body.all okCh = true := by simpa using hb
    unfold fraN at h
    split at h
    · cases h
    · rename_i h46
      split at h
      · cases h
      · rename_i h44
        unfold sizN at h
        split at h
        · cases h
        · unfold allN at h
          split at h
          · cases h
          · have hc := cut_mem body 46
            refine choN_ok (fun x hx => ?_) ?_ h
            · rcases List.mem_append.1 hx with hx | hx
              · unfold plainS at hx
                obtain ⟨hx1, hx2⟩ := List.mem_filter.1 hx
                obtain ⟨m1, m2⟩ := hc.1 x hx1
                exact ⟨List.all_eq_true.1 hb x m1, m2, by simpa using hx2⟩
              · have m1 := hc.2 x hx
                have z1 := countS_zero (fun h => h46 (.inl h)) x hx
                have z2 := countS_zero h44 x hx
                exact ⟨List.all_eq_true.1 hb x m1, by simpa using z1, by simpa using z2⟩
            · exact hp
theorem numberS_ok {s : List UInt8} {q : Pat} (h : numberS s = .ok q) : NumOk q := by
  unfold numberS numN at h
  split at h
  · split at h
    · unfold ex3N at h
      split at h
      · cases h
      · split at h
        · cases h
        · exact bodN_ok ⟨rfl, rfl, rfl, rfl, rfl, rfl, rfl, rfl, rfl, rfl, rfl⟩ h
    · unfold ex3N at h
      split at h
      · cases h
      · split at h
        · cases h
        · exact bodN_ok ⟨rfl, rfl, rfl, rfl, rfl, rfl, rfl, rfl, rfl, rfl, rfl⟩ h
  · exact bodN_ok ⟨rfl, rfl, rfl, rfl, rfl, rfl, rfl, rfl, rfl, rfl, rfl⟩ h
end Go.Proofs.YtgehlcgjchfibaaGreatDoor.F

namespace Go.Proofs.YtgehlcgjchfibaaGreatDoor.F

structure CmpOk (p : Pat) : Prop where
  cnt : p.minInt ≤ 40 ∧ p.maxInt ≤ 40 ∧ p.minFrac ≤ p.maxFrac ∧ p.maxFrac ≤ 40 ∧ p.minSig ≤ p.maxSig ∧ p.maxSig ≤ 40
  inc : dgs p.inc = true ∧ p.inc.length ≤ 40 ∧ (p.inc ≠ [] → dv p.inc ≠ 0)
  step : p.inc ≠ [] → p.minFrac = p.maxFrac ∧ p.sci = false
  sig : 0 < p.minSig → p.minInt = 0 ∧ p.maxFrac = 0 ∧ p.maxInt = 0 ∧ p.inc = []
  whole : p.sci = false → p.maxInt = 0
  lens : (p.pre ++ p.suf ++ p.npre ++ p.nsuf).length < 1000

theorem itemsT_ok {l : List Tok} {xs : List (Int × Int)} (h : itemsT l = .ok xs) : xs.length ≤ 40 := by
  unfold itemsT at h
  split at h
  · cases h
  · split at h
    · cases h
    · injection h with h
      subst h; omega
theorem halfS_ok {l : List El} {b : Int} {first : Bool} {a : Hlf} (h : halfS l b first = .ok a) : NumOk a.p ∧ a.pre.length ≤ 40 ∧ a.suf.length ≤ 40 := by
  unfold halfS at h
  simp only at h
  split at h
  · cases h
  · split at h
    · cases h
    · split at h
      · cases h
      · rename_i x hx
        split at h
        · cases h
        · rename_i p hp
          split at h
          · cases h
          · rename_i y hy
            injection h with h
            subst h
            exact ⟨numberS_ok hp, itemsT_ok hx, itemsT_ok hy⟩
theorem ite_ok {α β : Type} {c : Prop} [Decidable c] {e : α} {x y : β} (h : (if c then Except.error e else Except.ok x) = Except.ok y) : x = y := by
  by_cases hc : c
  · rw [if_pos hc] at h; cases h
  · rw [if_neg hc] at h; injection h
theorem compileS_ok {s : List UInt8} {p : Pat} (h : compileS s = .ok p) : CmpOk p := by
  unfold compileS at h
  split at h
  · cases h
  · split at h
    · cases h
    · rename_i es hes
      split at h
      · cases h
      · rename_i semi hsemi
        split at h
        · cases h
        · rename_i a ha
          obtain ⟨hn, hp, hs⟩ := halfS_ok ha
          simp only at h
          cases semi with
          | none =>
            simp only at h
            have h := ite_ok h
            subst h
            exact ⟨hn.cnt, hn.inc, hn.step, hn.sig, hn.whole, by simp; omega⟩
          | some k =>
            simp only at h
            cases hb : halfS (es.drop (k + 1)) (((es[k]?).map fun e => (e.t.at_ : Int)).getD 0 + 1) false with
            | error f =>
              rw [hb] at h
              simp at h
            | ok b =>
              obtain ⟨hn2, hp2, hs2⟩ := halfS_ok hb
              rw [hb] at h
              simp only at h
              have h := ite_ok h
              subst h
              exact ⟨hn.cnt, hn.inc, hn.step, hn.sig, hn.whole, by simp; omega⟩
end Go.Proofs.YtgehlcgjchfibaaGreatDoor.F

namespace Go.Proofs.YtgehlcgjchfibaaGreatDoor.F
open Go Go.RowKit Go.Proofs

def Hlf.av (h : Hlf) : AV := .agg ([items h.pre, items h.suf] ++ avCells h.p.av ++ [i64 h.at_, i32 h.pad, i64 h.long])
def Hlf.zero : Hlf := ⟨[], [], Pat.zero, 0, 0, 0⟩
def resH (r : Except Flt Hlf) : AV := match r with
  | .error f => .tup [Hlf.zero.av, f.av]
  | .ok h => .tup [h.av, (Flt.mk 0 0).av]
abbrev qH (r : Except Flt Hlf) : Exit → St → Prop := retQ [(6, some (some 25)), (7, some (some 2))] (resH r)
/-- The objects of half: the result, its fault, the half under way. -/
def obH (a : Nat) (pad : Int) : List (Nat × Ob) := [(6, .box 76 (avCells Hlf.zero.av)), (7, .box 52 [i64 0, i64 0]), (10, .box 76 (avCells (Hlf.av ⟨[], [], Pat.zero, a, pad, 0⟩)))]
theorem seg57_18 (a : Nat) (pad : Int) (x y : List (Int × Int)) (p : Pat) (s : List UInt8) (ex : List (Nat × AV)) (oex : List (Nat × Ob)) :
    VC e0 ic57_18 (qH (.ok ⟨x, y, p, a, pad, s.length⟩)) ⟨(6, .box 6 0) :: (7, .box 7 0) :: (10, .box 10 0) :: (16, .str s) :: (18, items x) :: (19, .box 19 0) :: (20, .box 20 0) :: (22, items y) :: ex, obH a pad ++ (19, .box 52 [i64 0, i64 0]) :: (20, .box 26 (avCells p.av)) :: oex⟩ := by
  simp only [ic57_18, obH, Hlf.av, Hlf.zero, Pat.av, Pat.zero, items, wkA, Nat.reduceEqDiff, Nat.reduceAdd, Nat.reduceSub, Nat.reduceLeDiff, Nat.reduceLT, Nat.reduceBEq, Nat.reduceBNe, reduceCtorEq]
  rfl
/-- An affix behind a number. -/
def sufH (a : Nat) (pad : Int) (x : List (Int × Int)) (p : Pat) (s : List UInt8) (toks : List Tok) : Except Flt Hlf := match itemsT toks with
  | .error f => .error f
  | .ok y => .ok ⟨x, y, p, a, pad, s.length⟩
theorem itemsT_err {l : List Tok} {f : Flt} (h : itemsT l = .error f) : f.e ≠ 0 := by
  have hS : ∀ (l : List Tok) (f : Flt), itemsS l = .error f → f.e = 4 := by
    intro l
    induction l with
    | nil => intro f h; simp [itemsS] at h
    | cons t l ih =>
      intro f h
      rw [itemsS_cons] at h
      split at h
      · injection h with h; subst h; rfl
      · split at h
        · rename_i g hg
          injection h with h; subst h
          exact ih _ hg
        · cases h
  unfold itemsT at h
  split at h
  · rename_i g hg
    injection h with h; subst h
    rw [hS _ _ hg]; decide
  · split at h
    · injection h with h; subst h; decide
    · cases h
theorem seg57_19 (a : Nat) (pad : Int) (x : List (Int × Int)) (p : Pat) (s : List UInt8) (toks : List Tok) (ex : List (Nat × AV)) (hl : toks.length < 1000000) (v0 v8 : AV) :
    VC e0 ic57_19 (qH (sufH a pad x p s toks)) ⟨(0, v0) :: (6, .box 6 0) :: (7, .box 7 0) :: (8, v8) :: (10, .box 10 0) :: (15, .own 199) :: (16, .str s) :: (18, items x) :: (19, .box 19 0) :: (20, .box 20 0) :: ex, obH a pad ++ [(19, .box 52 [i64 0, i64 0]), (20, .box 26 (avCells p.av)), (199, .row 71 3 (toks.map Tok.av))]⟩ := by
  have c89 := con89 hl
  unfold itemsA at c89
  unfold sufH
  cases hi : itemsT toks with
  | error f =>
    rw [hi] at c89
    have hf := itemsT_err hi
    have e1 : (f.e != 0) = true := by rw [bne_iff_ne]; exact hf
    simp only [Flt.av] at c89
    change VC e0 ic57_19 (qH (.error f)) _
    simp only [ic57_19, obH, Hlf.av, Hlf.zero, Pat.av, Pat.zero, items, wkA, Nat.reduceEqDiff, Nat.reduceAdd, Nat.reduceSub, Nat.reduceLeDiff, Nat.reduceLT, Nat.reduceBEq, Nat.reduceBNe, reduceCtorEq]
    refine callF c89 rfl ?_
    simp only [wkA, Nat.reduceEqDiff, Nat.reduceAdd, Nat.reduceSub, Nat.reduceLeDiff, Nat.reduceLT, Nat.reduceBEq, Nat.reduceBNe, reduceCtorEq, e1]
    rfl
  | ok y =>
    rw [hi] at c89
    have e1 : ((0 : Int) != 0) = false := rfl
    simp only [Flt.av, items] at c89
    change VC e0 ic57_19 (qH (.ok ⟨x, y, p, a, pad, s.length⟩)) _
    have f := fun ex oex => seg57_18 a pad x y p s ex oex
    simp only [obH, Hlf.av, Hlf.zero, Pat.av, Pat.zero, items, wkA, Nat.reduceEqDiff, Nat.reduceAdd, Nat.reduceSub, Nat.reduceLeDiff, Nat.reduceLT, Nat.reduceBEq, Nat.reduceBNe, reduceCtorEq] at f
    simp only [ic57_19, obH, Hlf.av, Hlf.zero, Pat.av, Pat.zero, items, wkA, Nat.reduceEqDiff, Nat.reduceAdd, Nat.reduceSub, Nat.reduceLeDiff, Nat.reduceLT, Nat.reduceBEq, Nat.reduceBNe, reduceCtorEq]
    refine callF c89 rfl ?_
    simp only [wkA, Nat.reduceEqDiff, Nat.reduceAdd, Nat.reduceSub, Nat.reduceLeDiff, Nat.reduceLT, Nat.reduceBEq, Nat.reduceBNe, reduceCtorEq, e1]
    exact f _ _

theorem longN_err {p : Pat} {e : Int} (h : longN p = .error e) : e ≠ 0 := by
  unfold longN at h
  split at h
  · injection h with h; subst h; decide
  · cases h
theorem mixN_err {p : Pat} {sizes : List Nat} {plain : List UInt8} {e : Int} (h : mixN p sizes plain = .error e) : e ≠ 0 := by
  unfold mixN at h
  split at h
  · injection h with h; subst h; decide
  · exact longN_err h
theorem aftN_err {p : Pat} {sizes : List Nat} {plain d : List UInt8} {e : Int} (h : aftN p sizes plain d = .error e) : e ≠ 0 := by
  unfold aftN at h
  split at h
  · injection h with h; subst h; decide
  · exact mixN_err h
theorem choN_err {p : Pat} {sizes : List Nat} {plain fr all : List UInt8} {pt : Bool} {e : Int} (h : choN p sizes plain fr all pt = .error e) : e ≠ 0 := by
  unfold choN at h
  split at h
  · split at h
    · injection h with h; subst h; decide
    · split at h
      · injection h with h; subst h; decide
      · exact mixN_err h
  · split at h
    · injection h with h; subst h; decide
    · exact aftN_err h
theorem allN_err {p : Pat} {sizes : List Nat} {plain fr : List UInt8} {pt : Bool} {e : Int} (h : allN p sizes plain fr pt = .error e) : e ≠ 0 := by
  unfold allN at h
  split at h
  · injection h with h; subst h; decide
  · exact choN_err h
theorem sizN_err {p : Pat} {sizes : List Nat} {plain fr : List UInt8} {pt : Bool} {e : Int} (h : sizN p sizes plain fr pt = .error e) : e ≠ 0 := by
  unfold sizN at h
  split at h
  · injection h with h; subst h; decide
  · exact allN_err h
theorem fraN_err {p : Pat} {wh fr : List UInt8} {pt : Bool} {e : Int} (h : fraN p wh fr pt = .error e) : e ≠ 0 := by
  unfold fraN at h
  split at h
  · injection h with h; subst h; decide
  · split at h
    · injection h with h; subst h; decide
    · exact sizN_err h
theorem bodN_err {p : Pat} {body : List UInt8} {e : Int} (h : bodN p body = .error e) : e ≠ 0 := by
  unfold bodN at h
  split at h
  · injection h with h; subst h; decide
  · exact fraN_err h
theorem ex3N_err {b : Bool} {x body : List UInt8} {e : Int} (h : ex3N b x body = .error e) : e ≠ 0 := by
  unfold ex3N at h
  split at h
  · injection h with h; subst h; decide
  · split at h
    · injection h with h; subst h; decide
    · exact bodN_err h
theorem numberS_err {s : List UInt8} {e : Int} (h : numberS s = .error e) : e ≠ 0 := by
  unfold numberS numN at h
  split at h
  · split at h
    · exact ex3N_err h
    · exact ex3N_err h
  · exact bodN_err h
def elZ : El := ⟨⟨0, false, 0⟩, false⟩
theorem getEl {l : List El} {i : Nat} (h : i < l.length) : (l.map El.av).getD i .top = (l.getD i elZ).av := by
  simp [List.getD_eq_getElem?_getD, h]
/-- A number, and the affix behind it. -/
def numH (a : Nat) (pad : Int) (x : List (Int × Int)) (s : List UInt8) (toks : List Tok) (l : List El) (n : Nat) : Except Flt Hlf := match numberS s with
  | .error e => .error ⟨e, (l.getD n elZ).t.at_⟩
  | .ok p => sufH a pad x p s toks
theorem seg57_20 (a : Nat) (pad : Int) (x : List (Int × Int)) (s : List UInt8) (toks : List Tok) (l : List El) (n : Nat) (ex : List (Nat × AV)) (hl : toks.length < 1000000) (hs : s.length < 400000) (hn : n < l.length) :
    VC e0 ic57_20 (qH (numH a pad x s toks l n)) ⟨(0, .sl 4 (l.map El.av)) :: (6, .box 6 0) :: (7, .box 7 0) :: (8, i64 n) :: (10, .box 10 0) :: (15, .own 199) :: (16, .str s) :: (18, items x) :: (19, .box 19 0) :: ex, obH a pad ++ [(19, .box 52 [i64 0, i64 0]), (199, .row 71 3 (toks.map Tok.av))]⟩ := by
  have c90 := con90 hs
  unfold numH
  have hg := getEl hn
  simp only [El.av] at hg
  cases hi : numberS s with
  | error e =>
    rw [hi] at c90
    have hf := numberS_err hi
    have e1 : (e != 0) = true := by rw [bne_iff_ne]; exact hf
    change VC e0 ic57_20 (qH (.error ⟨e, (l.getD n elZ).t.at_⟩)) _
    simp only [resN, Pat.av, Pat.zero, items, List.map_nil] at c90
    simp only [ic57_20, obH, Hlf.av, Hlf.zero, Pat.av, Pat.zero, items, wkA, Nat.reduceEqDiff, Nat.reduceAdd, Nat.reduceSub, Nat.reduceLeDiff, Nat.reduceLT, Nat.reduceBEq, Nat.reduceBNe, reduceCtorEq]
    refine callF c90 rfl ?_
    simp only [wkA, Nat.reduceEqDiff, Nat.reduceAdd, Nat.reduceSub, Nat.reduceLeDiff, Nat.reduceLT, Nat.reduceBEq, Nat.reduceBNe, reduceCtorEq, e1, Int.toNat_natCast, hg, List.length_map]
    refine ⟨⟨by omega, by omega⟩, ?_⟩
    rfl
  | ok p =>
    rw [hi] at c90
    have e1 : ((0 : Int) != 0) = false := rfl
    change VC e0 ic57_20 (qH (sufH a pad x p s toks)) _
    have f := fun ex => seg57_19 a pad x p s toks ex hl (.sl 4 (l.map El.av)) (i64 n)
    simp only [obH, Hlf.av, Hlf.zero, Pat.av, Pat.zero, items, wkA, Nat.reduceEqDiff, Nat.reduceAdd, Nat.reduceSub, Nat.reduceLeDiff, Nat.reduceLT, Nat.reduceBEq, Nat.reduceBNe, reduceCtorEq] at f
    simp only [resN, Pat.av, items] at c90
    simp only [ic57_20, obH, Hlf.av, Hlf.zero, Pat.av, Pat.zero, items, wkA, Nat.reduceEqDiff, Nat.reduceAdd, Nat.reduceSub, Nat.reduceLeDiff, Nat.reduceLT, Nat.reduceBEq, Nat.reduceBNe, reduceCtorEq]
    refine callF c90 rfl ?_
    simp only [wkA, Nat.reduceEqDiff, Nat.reduceAdd, Nat.reduceSub, Nat.reduceLeDiff, Nat.reduceLT, Nat.reduceBEq, Nat.reduceBNe, reduceCtorEq, e1]
    exact f _

/-- Both affixes, and the number between them. -/
def parH (a : Nat) (pad : Int) (s : List UInt8) (ta tb : List Tok) (l : List El) (n : Nat) : Except Flt Hlf := match itemsT ta with
  | .error f => .error f
  | .ok x => numH a pad x s tb l n
theorem seg57_21 (a : Nat) (pad : Int) (s : List UInt8) (ta tb : List Tok) (l : List El) (n : Nat) (v9 : AV) (ex : List (Nat × AV)) (hla : ta.length < 1000000) (hlb : tb.length < 1000000) (hs : s.length < 400000) (hn : n < l.length) :
    VC e0 ic57_21 (qH (parH a pad s ta tb l n)) ⟨(0, .sl 4 (l.map El.av)) :: (6, .box 6 0) :: (7, .box 7 0) :: (8, i64 n) :: (9, v9) :: (10, .box 10 0) :: (14, .own 178) :: (15, .own 199) :: (16, .str s) :: ex, obH a pad ++ [(178, .row 71 3 (ta.map Tok.av)), (199, .row 71 3 (tb.map Tok.av))]⟩ := by
  have c89 := con89 hla
  unfold itemsA at c89
  unfold parH
  cases hi : itemsT ta with
  | error f =>
    rw [hi] at c89
    have hf := itemsT_err hi
    have e1 : (f.e != 0) = true := by rw [bne_iff_ne]; exact hf
    simp only [Flt.av] at c89
    change VC e0 ic57_21 (qH (.error f)) _
    simp only [ic57_21, obH, Hlf.av, Hlf.zero, Pat.av, Pat.zero, items, wkA, Nat.reduceEqDiff, Nat.reduceAdd, Nat.reduceSub, Nat.reduceLeDiff, Nat.reduceLT, Nat.reduceBEq, Nat.reduceBNe, reduceCtorEq]
    refine callF c89 rfl ?_
    simp only [wkA, Nat.reduceEqDiff, Nat.reduceAdd, Nat.reduceSub, Nat.reduceLeDiff, Nat.reduceLT, Nat.reduceBEq, Nat.reduceBNe, reduceCtorEq, e1]
    rfl
  | ok x =>
    rw [hi] at c89
    have e1 : ((0 : Int) != 0) = false := rfl
    simp only [Flt.av, items] at c89
    change VC e0 ic57_21 (qH (numH a pad x s tb l n)) _
    have f := fun ex => seg57_20 a pad x s tb l n ex hlb hs hn
    simp only [obH, Hlf.av, Hlf.zero, Pat.av, Pat.zero, items, wkA, Nat.reduceEqDiff, Nat.reduceAdd, Nat.reduceSub, Nat.reduceLeDiff, Nat.reduceLT, Nat.reduceBEq, Nat.reduceBNe, reduceCtorEq] at f
    simp only [ic57_21, obH, Hlf.av, Hlf.zero, Pat.av, Pat.zero, items, wkA, Nat.reduceEqDiff, Nat.reduceAdd, Nat.reduceSub, Nat.reduceLeDiff, Nat.reduceLT, Nat.reduceBEq, Nat.reduceBNe, reduceCtorEq]
    refine callF c89 rfl ?_
    simp only [wkA, Nat.reduceEqDiff, Nat.reduceAdd, Nat.reduceSub, Nat.reduceLeDiff, Nat.reduceLT, Nat.reduceBEq, Nat.reduceBNe, reduceCtorEq, e1]
    exact f _

theorem toksS_snoc (xs : List El) (e : El) : toksS (xs ++ [e]) = toksS xs ++ (if e.pad = true then [] else [e.t]) := by
  unfold toksS
  rw [List.filter_append, List.map_append]
  congr 1
  cases h : e.pad <;> simp [h]
theorem textS_snoc (xs : List El) (e : El) : textS (xs ++ [e]) = textS xs ++ (if e.pad = true then [] else bytesS e.t.r.toNat) := by
  unfold textS
  rw [toksS_snoc, List.flatMap_append]
  congr 1
  cases h : e.pad <;> simp
theorem toksS_len (xs : List El) : (toksS xs).length ≤ xs.length := by
  unfold toksS; rw [List.length_map]; exact List.length_filter_le _ _
theorem bytesS_len (n : Nat) : (bytesS n).length ≤ 4 := by
  unfold bytesS; repeat' split
  all_goals simp
theorem textS_len (xs : List El) : (textS xs).length ≤ 4 * xs.length := by
  induction xs with
  | nil => simp [textS, toksS]
  | cons e xs ih =>
    have hb := bytesS_len e.t.r.toNat
    have : textS (e :: xs) = (if e.pad = true then [] else bytesS e.t.r.toNat) ++ textS xs := by
      unfold textS toksS
      cases h : e.pad <;> simp [h]
    rw [this, List.length_append, List.length_cons]
    split
    · simp; omega
    · omega
theorem take_snocE {l : List El} {i : Nat} (h : i < l.length) : l.take (i + 1) = l.take i ++ [l.getD i elZ] := by
  rw [List.take_add_one]; simp [List.getD_eq_getElem?_getD, h]
def A17 (l : List El) (n i : Nat) : List Tok := toksS ((l.take i).take n)
def S17 (l : List El) (n fin i : Nat) : List UInt8 := textS (((l.take i).take fin).drop n)
def B17 (l : List El) (fin i : Nat) : List Tok := toksS ((l.take i).drop fin)
theorem A17_step {l : List El} {n i : Nat} (h : i < l.length) : A17 l n (i + 1) = A17 l n i ++ (if (l.getD i elZ).pad = false ∧ i < n then [(l.getD i elZ).t] else []) := by
  unfold A17
  rw [take_snocE h, List.take_append, List.length_take, Nat.min_eq_left (by omega)]
  by_cases h1 : i < n
  · rw [show n - i = (n - i - 1) + 1 by omega, List.take_succ_cons, List.take_nil, toksS_snoc]
    cases h2 : (l.getD i elZ).pad <;> simp [h1]
  · rw [show n - i = 0 by omega, List.take_zero, List.append_nil, if_neg (fun h => h1 h.2), List.append_nil]
theorem B17_step {l : List El} {fin i : Nat} (h : i < l.length) : B17 l fin (i + 1) = B17 l fin i ++ (if (l.getD i elZ).pad = false ∧ fin ≤ i then [(l.getD i elZ).t] else []) := by
  unfold B17
  rw [take_snocE h, List.drop_append, List.length_take, Nat.min_eq_left (by omega)]
  by_cases h1 : fin ≤ i
  · rw [show fin - i = 0 by omega, List.drop_zero, toksS_snoc]
    cases h2 : (l.getD i elZ).pad <;> simp [h1]
  · rw [show fin - i = (fin - i - 1) + 1 by omega, List.drop_succ_cons, List.drop_nil, List.append_nil, if_neg (fun h => h1 h.2), List.append_nil]
theorem S17_step {l : List El} {n fin i : Nat} (h : i < l.length) (hf : n ≤ fin) : S17 l n fin (i + 1) = S17 l n fin i ++ (if (l.getD i elZ).pad = false ∧ n ≤ i ∧ i < fin then bytesS (l.getD i elZ).t.r.toNat else []) := by
  unfold S17
  rw [take_snocE h, List.take_append, List.length_take, Nat.min_eq_left (by omega)]
  by_cases h1 : i < fin
  · rw [show fin - i = (fin - i - 1) + 1 by omega, List.take_succ_cons, List.take_nil, List.drop_append, List.length_take, List.length_take, Nat.min_eq_left (show i ≤ l.length by omega), Nat.min_eq_right (by omega)]
    by_cases h2 : n ≤ i
    · rw [show n - i = 0 by omega, List.drop_zero, textS_snoc]
      cases h3 : (l.getD i elZ).pad <;> simp [h1, h2]
    · rw [show n - i = (n - i - 1) + 1 by omega, List.drop_succ_cons, List.drop_nil, List.append_nil, if_neg (fun h => h2 h.2.1), List.append_nil]
  · rw [show fin - i = 0 by omega, List.take_zero, List.append_nil, if_neg (fun h => h1 h.2.2), List.append_nil]
def I17 (a : Nat) (pad : Int) (l : List El) (n fin : Nat) (j : Nat) (st : St) : Prop := ∃ i : Nat, j = l.length - i ∧ i ≤ l.length ∧
  st = ⟨[(0, .sl 4 (l.map El.av)), (6, .box 6 0), (7, .box 7 0), (8, i64 n), (9, i64 fin), (10, .box 10 0), (14, .own 178), (15, .own 199), (16, .str (S17 l n fin i)), (17, i64 i)], obH a pad ++ [(178, .row 71 3 ((A17 l n i).map Tok.av)), (199, .row 71 3 ((B17 l fin i).map Tok.av))]⟩
theorem seg57_22 (a : Nat) (pad : Int) (l : List El) (n fin : Nat) (v2 : AV) (ex : List (Nat × AV)) (hl : l.length < 90000) (hn : n < l.length) (hf : n ≤ fin ∧ fin ≤ l.length) (hr : ∀ e ∈ l, 0 ≤ e.t.r ∧ e.t.r < 2097152) :
    VC e0 ic57_22 (qH (parH a pad (textS ((l.take fin).drop n)) (toksS (l.take n)) (toksS (l.drop fin)) l n)) ⟨(0, .sl 4 (l.map El.av)) :: (2, v2) :: (6, .box 6 0) :: (7, .box 7 0) :: (8, i64 n) :: (9, i64 fin) :: (10, .box 10 0) :: ex, obH a pad⟩ := by
  simp only [ic57_22, obH, Hlf.av, Hlf.zero, Pat.av, Pat.zero, items, wkA, Nat.reduceEqDiff, Nat.reduceAdd, Nat.reduceSub, Nat.reduceLeDiff, Nat.reduceLT, Nat.reduceBEq, Nat.reduceBNe, reduceCtorEq]
  refine ⟨I17 a pad l n fin, l.length, ⟨[(0, .sl 4 (l.map El.av)), (6, .box 6 0), (7, .box 7 0), (8, i64 n), (9, i64 fin), (10, .box 10 0), (14, .own 178), (15, .own 199), (16, .str []), (17, i64 0)], obH a pad ++ [(178, .row 71 3 []), (199, .row 71 3 [])]⟩, ?_, ⟨0, rfl, by omega, by simp [A17, B17, S17, toksS, textS]⟩, ?_⟩
  · have h1 := Gh.own (s := ⟨[(0, .sl 4 (l.map El.av)), (6, .box 6 0), (7, .box 7 0), (8, i64 n), (9, i64 fin), (10, .box 10 0), (14, .nil), (15, .nil), (16, .str []), (17, i64 0)], obH a pad⟩) (t := 14) 71 3 178 rfl (by decide)
    have h2 := Gh.own (s := St.new ⟨[(0, .sl 4 (l.map El.av)), (6, .box 6 0), (7, .box 7 0), (8, i64 n), (9, i64 fin), (10, .box 10 0), (14, .nil), (15, .nil), (16, .str []), (17, i64 0)], obH a pad⟩ 14 178 (.row 71 3 []) (.own 178)) (t := 15) 71 3 199 rfl (by decide)
    refine Gh.trans ?_ (((h1.trans h2).trans (Gh.keep _ [0, 6, 7, 8, 9, 10, 14, 15, 16, 17] [6, 7, 10, 178, 199])).trans ?_)
    · simp only [obH, Hlf.av, Hlf.zero, Pat.av, Pat.zero, items, wkA, Nat.reduceEqDiff, Nat.reduceAdd, Nat.reduceSub, Nat.reduceLeDiff, Nat.reduceLT, Nat.reduceBEq, Nat.reduceBNe, reduceCtorEq]
      exact Gh.refl _
    · simp only [obH, Hlf.av, Hlf.zero, Pat.av, Pat.zero, items, wkA, Nat.reduceEqDiff, Nat.reduceAdd, Nat.reduceSub, Nat.reduceLeDiff, Nat.reduceLT, Nat.reduceBEq, Nat.reduceBNe, reduceCtorEq]
      exact Gh.refl _
  · rintro j st ⟨i, rfl, hi, rfl⟩
    by_cases hlt : i < l.length
    · have e0 : decide ((i : Int) < (l.length : Int)) = true := decide_eq_true (by omega)
      have w1 : IntKind.i64.wrap ((i : Int) + 1) = ((i + 1 : Nat) : Int) := by rw [wrap64] <;> omega
      have hg := getEl hlt
      have hA := A17_step (n := n) hlt
      have hB := B17_step (fin := fin) hlt
      have hS := S17_step (n := n) (fin := fin) hlt hf.1
      have hAl : (A17 l n i).length ≤ l.length := by
        unfold A17; refine Nat.le_trans (toksS_len _) ?_; simp; omega
      have hBl : (B17 l fin i).length ≤ l.length := by
        unfold B17; refine Nat.le_trans (toksS_len _) ?_; simp; omega
      have hSl : (S17 l n fin i).length ≤ 4 * l.length := by
        unfold S17; refine Nat.le_trans (textS_len _) ?_; simp; omega
      have hm : l.getD i elZ ∈ l := by
        rw [List.getD_eq_getElem?_getD, List.getElem?_eq_getElem hlt]; exact List.getElem_mem hlt
      have hre := hr _ hm
      generalize l.getD i elZ = e at *
      simp only [El.av] at hg
      have next : ∀ (ta tb : List Tok) (s : List UInt8), ta = A17 l n (i + 1) → tb = B17 l fin (i + 1) → s = S17 l n fin (i + 1) → backQ (I17 a pad l n fin) (l.length - i) ⟨[(0, .sl 4 (l.map El.av)), (6, .box 6 0), (7, .box 7 0), (8, i64 n), (9, i64 fin), (10, .box 10 0), (14, .own 178), (15, .own 199), (16, .str s), (17, i64 ((i + 1 : Nat) : Int))], obH a pad ++ [(178, .row 71 3 (ta.map Tok.av)), (199, .row 71 3 (tb.map Tok.av))]⟩ := by
        rintro ta tb s rfl rfl rfl
        exact ⟨_, l.length - (i + 1), Gh.refl _, by omega, i + 1, rfl, by omega, rfl⟩
      simp only [obH, Hlf.av, Hlf.zero, Pat.av, Pat.zero, items, wkA, Nat.reduceEqDiff, Nat.reduceAdd, Nat.reduceSub, Nat.reduceLeDiff, Nat.reduceLT, Nat.reduceBEq, Nat.reduceBNe, reduceCtorEq] at next
      cases hp : e.pad with
      | true =>
        rw [hp] at hg hA hB hS
        have nx := next (A17 l n i) (B17 l fin i) (S17 l n fin i) (by rw [hA]; simp) (by rw [hB]; simp) (by rw [hS]; simp)
        simp only [ic57_17, obH, Hlf.av, Hlf.zero, Pat.av, Pat.zero, items, wkA, Nat.reduceEqDiff, Nat.reduceAdd, Nat.reduceSub, Nat.reduceLeDiff, Nat.reduceLT, Nat.reduceBEq, Nat.reduceBNe, reduceCtorEq, List.length_map, e0]
        simp only [ic57_16, ic57_15, wkA, Nat.reduceEqDiff, Nat.reduceAdd, Nat.reduceSub, Nat.reduceLeDiff, Nat.reduceLT, Nat.reduceBEq, Nat.reduceBNe, reduceCtorEq, Int.toNat_natCast, List.length_map, hg, w1]
        exact ⟨⟨by omega, by omega⟩, nx⟩
      | false =>
        rw [hp] at hg hA hB hS
        by_cases h1 : i < n
        · have e1 : decide ((i : Int) < (n : Int)) = true := decide_eq_true (by omega)
          have nx := next (A17 l n i ++ [e.t]) (B17 l fin i) (S17 l n fin i) (by rw [hA, if_pos ⟨rfl, h1⟩]) (by rw [hB, if_neg (by omega)]; simp) (by rw [hS, if_neg (by omega)]; simp)
          simp only [List.map_append, List.map_cons, List.map_nil, Tok.av] at nx
          simp only [ic57_17, obH, Hlf.av, Hlf.zero, Pat.av, Pat.zero, items, wkA, Nat.reduceEqDiff, Nat.reduceAdd, Nat.reduceSub, Nat.reduceLeDiff, Nat.reduceLT, Nat.reduceBEq, Nat.reduceBNe, reduceCtorEq, List.length_map, e0]
          simp only [ic57_16, ic57_15, ic57_14, wkA, Nat.reduceEqDiff, Nat.reduceAdd, Nat.reduceSub, Nat.reduceLeDiff, Nat.reduceLT, Nat.reduceBEq, Nat.reduceBNe, reduceCtorEq, Int.toNat_natCast, List.length_map, hg, w1, e1]
          exact ⟨⟨by omega, by omega⟩, ⟨by omega, by omega⟩, ⟨by omega, by omega⟩, nx⟩
        · have e1 : decide ((i : Int) < (n : Int)) = false := decide_eq_false (by omega)
          by_cases h2 : i < fin
          · have e2 : decide ((i : Int) < (fin : Int)) = true := decide_eq_true (by omega)
            have nx := next (A17 l n i) (B17 l fin i) (S17 l n fin i ++ bytesS e.t.r.toNat) (by rw [hA, if_neg (by omega)]; simp) (by rw [hB, if_neg (by omega)]; simp) (by rw [hS, if_pos ⟨rfl, by omega, h2⟩])
            have c88 := con88 (n := e.t.r.toNat) (by omega)
            rw [show ((e.t.r.toNat : Nat) : Int) = e.t.r by omega] at c88
            have hbl := bytesS_len e.t.r.toNat
            simp only [ic57_17, obH, Hlf.av, Hlf.zero, Pat.av, Pat.zero, items, wkA, Nat.reduceEqDiff, Nat.reduceAdd, Nat.reduceSub, Nat.reduceLeDiff, Nat.reduceLT, Nat.reduceBEq, Nat.reduceBNe, reduceCtorEq, List.length_map, e0]
            simp only [ic57_16, ic57_15, ic57_14, wkA, Nat.reduceEqDiff, Nat.reduceAdd, Nat.reduceSub, Nat.reduceLeDiff, Nat.reduceLT, Nat.reduceBEq, Nat.reduceBNe, reduceCtorEq, Int.toNat_natCast, List.length_map, hg, w1, e1, e2]
            refine ⟨⟨by omega, by omega⟩, ⟨by omega, by omega⟩, callF c88 rfl ?_⟩
            simp only [wkA, Nat.reduceEqDiff, Nat.reduceAdd, Nat.reduceSub, Nat.reduceLeDiff, Nat.reduceLT, Nat.reduceBEq, Nat.reduceBNe, reduceCtorEq, bts_map, w1]
            exact ⟨bts_ok _, by omega, nx⟩
          · have e2 : decide ((i : Int) < (fin : Int)) = false := decide_eq_false (by omega)
            have nx := next (A17 l n i) (B17 l fin i ++ [e.t]) (S17 l n fin i) (by rw [hA, if_neg (by omega)]; simp) (by rw [hB, if_pos ⟨rfl, by omega⟩]) (by rw [hS, if_neg (by omega)]; simp)
            simp only [List.map_append, List.map_cons, List.map_nil, Tok.av] at nx
            simp only [ic57_17, obH, Hlf.av, Hlf.zero, Pat.av, Pat.zero, items, wkA, Nat.reduceEqDiff, Nat.reduceAdd, Nat.reduceSub, Nat.reduceLeDiff, Nat.reduceLT, Nat.reduceBEq, Nat.reduceBNe, reduceCtorEq, List.length_map, e0]
            simp only [ic57_16, ic57_15, ic57_14, wkA, Nat.reduceEqDiff, Nat.reduceAdd, Nat.reduceSub, Nat.reduceLeDiff, Nat.reduceLT, Nat.reduceBEq, Nat.reduceBNe, reduceCtorEq, Int.toNat_natCast, List.length_map, hg, w1, e1, e2]
            exact ⟨⟨by omega, by omega⟩, ⟨by omega, by omega⟩, ⟨by omega, by omega⟩, nx⟩
    · have e0 : decide ((i : Int) < (l.length : Int)) = false := decide_eq_false (by omega)
      have ht : l.take i = l := List.take_of_length_le (by omega)
      have h1 : A17 l n i = toksS (l.take n) := by rw [A17, ht]
      have h2 : B17 l fin i = toksS (l.drop fin) := by rw [B17, ht]
      have h3 : S17 l n fin i = textS ((l.take fin).drop n) := by rw [S17, ht]
      have f := fun ex => seg57_21 a pad (textS ((l.take fin).drop n)) (toksS (l.take n)) (toksS (l.drop fin)) l n (i64 fin) ex (Nat.lt_of_le_of_lt (toksS_len _) (by simp; omega)) (Nat.lt_of_le_of_lt (toksS_len _) (by simp; omega)) (Nat.lt_of_le_of_lt (textS_len _) (by simp; omega)) hn
      simp only [obH, Hlf.av, Hlf.zero, Pat.av, Pat.zero, items, wkA, Nat.reduceEqDiff, Nat.reduceAdd, Nat.reduceSub, Nat.reduceLeDiff, Nat.reduceLT, Nat.reduceBEq, Nat.reduceBNe, reduceCtorEq] at f
      simp only [ic57_17, obH, Hlf.av, Hlf.zero, Pat.av, Pat.zero, items, wkA, Nat.reduceEqDiff, Nat.reduceAdd, Nat.reduceSub, Nat.reduceLeDiff, Nat.reduceLT, Nat.reduceBEq, Nat.reduceBNe, reduceCtorEq, List.length_map, e0, h1, h2, h3]
      exact f _

def padH (first : Bool) (l : List El) (n fin : Nat) : Except Flt Hlf := match padS first n fin l.length l 0 0 (0, 0) with
  | .error f => .error f
  | .ok h => parH h.1 h.2 (textS ((l.take fin).drop n)) (toksS (l.take n)) (toksS (l.drop fin)) l n
theorem padS_cons (first : Bool) (n fin len : Nat) (e : El) (l : List El) (i pads : Nat) (h : Nat × Int) : padS first n fin len (e :: l) i pads h =
    if e.pad = false then padS first n fin len l (i + 1) pads h
    else if placeS i n fin len = 0 ∨ 0 < pads ∨ first = false then .error ⟨7, e.t.at_⟩
    else padS first n fin len l (i + 1) (pads + 1) (placeS i n fin len, e.t.r) := rfl
def I13p (first : Bool) (l : List El) (n fin : Nat) (j : Nat) (st : St) : Prop := ∃ (i pads a : Nat) (pd : Int), j = l.length - i ∧ i ≤ l.length ∧ pads ≤ i ∧
  st = ⟨[(0, .sl 4 (l.map El.av)), (2, .bool first), (6, .box 6 0), (7, .box 7 0), (8, i64 n), (9, i64 fin), (10, .box 10 0), (11, i64 pads), (12, i64 i)], obH a pd⟩ ∧
  padS first n fin l.length l 0 0 (0, 0) = padS first n fin l.length (l.drop i) i pads (a, pd)
theorem seg57_23 (first : Bool) (l : List El) (n fin : Nat) (ex : List (Nat × AV)) (hl : l.length < 90000) (hn : n < l.length) (hf : n ≤ fin ∧ fin ≤ l.length) (hr : ∀ e ∈ l, 0 ≤ e.t.r ∧ e.t.r < 2097152) :
    VC e0 ic57_23 (qH (padH first l n fin)) ⟨(0, .sl 4 (l.map El.av)) :: (2, .bool first) :: (6, .box 6 0) :: (7, .box 7 0) :: (8, i64 n) :: (9, i64 fin) :: ex, [(6, .box 76 (avCells Hlf.zero.av)), (7, .box 52 [i64 0, i64 0])]⟩ := by
  simp only [ic57_23, Hlf.av, Hlf.zero, Pat.av, Pat.zero, items, wkA, Nat.reduceEqDiff, Nat.reduceAdd, Nat.reduceSub, Nat.reduceLeDiff, Nat.reduceLT, Nat.reduceBEq, Nat.reduceBNe, reduceCtorEq]
  refine ⟨I13p first l n fin, l.length, _, Gh.refl _, ⟨0, 0, 0, 0, rfl, by omega, by omega, rfl, rfl⟩, ?_⟩
  rintro j st ⟨i, pads, a, pd, rfl, hi, hpi, rfl, hp⟩
  by_cases hlt : i < l.length
  · have e0 : decide ((i : Int) < (l.length : Int)) = true := decide_eq_true (by omega)
    have w1 : IntKind.i64.wrap ((i : Int) + 1) = ((i + 1 : Nat) : Int) := by rw [wrap64] <;> omega
    have wp : IntKind.i64.wrap ((pads : Int) + 1) = ((pads + 1 : Nat) : Int) := by rw [wrap64] <;> omega
    have wn : IntKind.i64.wrap ((n : Int) - 1) = (n : Int) - 1 := by rw [wrap64] <;> omega
    have wl : IntKind.i64.wrap ((l.length : Int) - 1) = (l.length : Int) - 1 := by rw [wrap64] <;> omega
    have hg := getEl hlt
    have hd : l.drop i = l.getD i elZ :: l.drop (i + 1) := by
      rw [List.drop_eq_getElem_cons hlt, List.getD_eq_getElem?_getD, List.getElem?_eq_getElem hlt]; rfl
    rw [hd, padS_cons] at hp
    generalize l.getD i elZ = e at *
    simp only [El.av] at hg
    cases hpd : e.pad with
    | false =>
      rw [hpd] at hg hp
      rw [if_pos rfl] at hp
      simp only [ic57_13, obH, Hlf.av, Hlf.zero, Pat.av, Pat.zero, items, wkA, Nat.reduceEqDiff, Nat.reduceAdd, Nat.reduceSub, Nat.reduceLeDiff, Nat.reduceLT, Nat.reduceBEq, Nat.reduceBNe, reduceCtorEq, List.length_map, e0]
      simp only [ic57_12, ic57_11, wkA, Nat.reduceEqDiff, Nat.reduceAdd, Nat.reduceSub, Nat.reduceLeDiff, Nat.reduceLT, Nat.reduceBEq, Nat.reduceBNe, reduceCtorEq, Int.toNat_natCast, List.length_map, hg, w1, Bool.not_false]
      exact ⟨⟨by omega, by omega⟩, _, l.length - (i + 1), Gh.refl _, by omega, i + 1, pads, a, pd, rfl, by omega, by omega, rfl, hp⟩
    | true =>
      rw [hpd] at hg hp
      rw [if_neg (by simp)] at hp
      have hstep : ∀ k : Nat, k = placeS i n fin l.length → (k = 0 ∨ 0 < pads ∨ first = false) → padH first l n fin = .error ⟨7, e.t.at_⟩ := by
        intro k hk hb
        rw [← hk, if_pos hb] at hp
        rw [padH, hp]
      have next : ∀ k : Nat, k = placeS i n fin l.length → ¬ (k = 0 ∨ 0 < pads ∨ first = false) → backQ (I13p first l n fin) (l.length - i) ⟨[(0, .sl 4 (l.map El.av)), (2, .bool first), (6, .box 6 0), (7, .box 7 0), (8, i64 n), (9, i64 fin), (10, .box 10 0), (11, i64 ((pads + 1 : Nat) : Int)), (12, i64 ((i + 1 : Nat) : Int))], obH k e.t.r⟩ := by
        intro k hk hb
        rw [← hk, if_neg hb] at hp
        exact ⟨_, l.length - (i + 1), Gh.refl _, by omega, i + 1, pads + 1, k, e.t.r, rfl, by omega, by omega, rfl, hp⟩
      simp only [ic57_13, obH, Hlf.av, Hlf.zero, Pat.av, Pat.zero, items, wkA, Nat.reduceEqDiff, Nat.reduceAdd, Nat.reduceSub, Nat.reduceLeDiff, Nat.reduceLT, Nat.reduceBEq, Nat.reduceBNe, reduceCtorEq, List.length_map, e0]
      simp only [ic57_12, wkA, Nat.reduceEqDiff, Nat.reduceAdd, Nat.reduceSub, Nat.reduceLeDiff, Nat.reduceLT, Nat.reduceBEq, Nat.reduceBNe, reduceCtorEq, Int.toNat_natCast, List.length_map, hg, Bool.not_true]
      refine ⟨⟨by omega, by omega⟩, ?_⟩
      have mid : ∀ (k : Nat) (ex : List (Nat × AV)), k = placeS i n fin l.length → VC F.e0 ic57_9 (blockQ 7 (thenQ (VC F.e0 ic57_11 (thenQ (backQ (I13p first l n fin) (l.length - i)) (blockQ 6 (thenQ (VC F.e0 ic57_22 (qH (padH first l n fin))) (qH (padH first l n fin)))))) (thenQ (backQ (I13p first l n fin) (l.length - i)) (blockQ 6 (thenQ (VC F.e0 ic57_22 (qH (padH first l n fin))) (qH (padH first l n fin)))))))
          ⟨(0, .sl 4 (l.map El.av)) :: (2, .bool first) :: (6, .box 6 0) :: (7, .box 7 0) :: (8, i64 n) :: (9, i64 fin) :: (10, .box 10 0) :: (11, i64 pads) :: (12, i64 i) :: (13, i64 k) :: ex, obH a pd⟩ := by
        intro k ex hk
        have hst := hstep k hk
        have nx := next k hk
        simp only [obH, Hlf.av, Hlf.zero, Pat.av, Pat.zero, items, wkA, Nat.reduceEqDiff, Nat.reduceAdd, Nat.reduceSub, Nat.reduceLeDiff, Nat.reduceLT, Nat.reduceBEq, Nat.reduceBNe, reduceCtorEq] at nx
        have ek : (((k : Nat) : Int) == 0) = decide (k = 0) := by rw [Bool.eq_iff_iff, beq_iff_eq, decide_eq_true_eq]; omega
        have ep : decide (((pads + 1 : Nat) : Int) > 1) = decide (0 < pads) := by rw [decide_eq_decide]; omega
        by_cases h1 : k = 0
        · rw [decide_eq_true h1] at ek
          rw [hst (.inl h1)]
          simp only [ic57_9, obH, Hlf.av, Hlf.zero, Pat.av, Pat.zero, items, wkA, Nat.reduceEqDiff, Nat.reduceAdd, Nat.reduceSub, Nat.reduceLeDiff, Nat.reduceLT, Nat.reduceBEq, Nat.reduceBNe, reduceCtorEq, wp, ek, Int.toNat_natCast, List.length_map, hg]
          refine ⟨⟨by omega, by omega⟩, ?_⟩
          rfl
        · rw [decide_eq_false h1] at ek
          by_cases h2 : 0 < pads
          · rw [decide_eq_true h2] at ep
            rw [hst (.inr (.inl h2))]
            simp only [ic57_9, obH, Hlf.av, Hlf.zero, Pat.av, Pat.zero, items, wkA, Nat.reduceEqDiff, Nat.reduceAdd, Nat.reduceSub, Nat.reduceLeDiff, Nat.reduceLT, Nat.reduceBEq, Nat.reduceBNe, reduceCtorEq, wp, ek, ep, Int.toNat_natCast, List.length_map, hg]
            refine ⟨⟨by omega, by omega⟩, ?_⟩
            rfl
          · rw [decide_eq_false h2] at ep
            cases hfst : first with
            | false =>
              rw [hfst] at hst
              rw [hst (.inr (.inr rfl))]
              simp only [ic57_9, obH, Hlf.av, Hlf.zero, Pat.av, Pat.zero, items, wkA, Nat.reduceEqDiff, Nat.reduceAdd, Nat.reduceSub, Nat.reduceLeDiff, Nat.reduceLT, Nat.reduceBEq, Nat.reduceBNe, reduceCtorEq, wp, ek, ep, Bool.not_false, Int.toNat_natCast, List.length_map, hg]
              refine ⟨⟨by omega, by omega⟩, ?_⟩
              rfl
            | true =>
              rw [hfst] at nx
              have nx := nx (by simp [h1, h2])
              simp only [ic57_9, obH, Hlf.av, Hlf.zero, Pat.av, Pat.zero, items, wkA, Nat.reduceEqDiff, Nat.reduceAdd, Nat.reduceSub, Nat.reduceLeDiff, Nat.reduceLT, Nat.reduceBEq, Nat.reduceBNe, reduceCtorEq, wp, ek, ep, Bool.not_true]
              simp only [ic57_8, wkA, Nat.reduceEqDiff, Nat.reduceAdd, Nat.reduceSub, Nat.reduceLeDiff, Nat.reduceLT, Nat.reduceBEq, Nat.reduceBNe, reduceCtorEq, Int.toNat_natCast, List.length_map, hg]
              refine ⟨⟨by omega, by omega⟩, ?_⟩
              simp only [ic57_11, wkA, Nat.reduceEqDiff, Nat.reduceAdd, Nat.reduceSub, Nat.reduceLeDiff, Nat.reduceLT, Nat.reduceBEq, Nat.reduceBNe, reduceCtorEq, w1]
              exact nx
      simp only [obH, Hlf.av, Hlf.zero, Pat.av, Pat.zero, items, wkA, Nat.reduceEqDiff, Nat.reduceAdd, Nat.reduceSub, Nat.reduceLeDiff, Nat.reduceLT, Nat.reduceBEq, Nat.reduceBNe, reduceCtorEq] at mid
      have i0 : (((i : Nat) : Int) == 0) = decide (i = 0) := by rw [Bool.eq_iff_iff, beq_iff_eq, decide_eq_true_eq]; omega
      have i1 : (((i : Nat) : Int) == (n : Int) - 1) = decide (i + 1 = n) := by rw [Bool.eq_iff_iff, beq_iff_eq, decide_eq_true_eq]; omega
      have i2 : (((i : Nat) : Int) == (fin : Int)) = decide (i = fin) := by rw [Bool.eq_iff_iff, beq_iff_eq, decide_eq_true_eq]; omega
      have i3 : (((i : Nat) : Int) == (l.length : Int) - 1) = decide (i + 1 = l.length) := by rw [Bool.eq_iff_iff, beq_iff_eq, decide_eq_true_eq]; omega
      by_cases p1 : i = 0
      · rw [decide_eq_true p1] at i0
        simp only [ic57_10, wkA, Nat.reduceEqDiff, Nat.reduceAdd, Nat.reduceSub, Nat.reduceLeDiff, Nat.reduceLT, Nat.reduceBEq, Nat.reduceBNe, reduceCtorEq, i0]
        exact mid 1 _ (by rw [placeS, if_pos p1])
      · rw [decide_eq_false p1] at i0
        by_cases p2 : i + 1 = n
        · rw [decide_eq_true p2] at i1
          simp only [ic57_10, wkA, Nat.reduceEqDiff, Nat.reduceAdd, Nat.reduceSub, Nat.reduceLeDiff, Nat.reduceLT, Nat.reduceBEq, Nat.reduceBNe, reduceCtorEq, i0, wn, i1]
          exact mid 2 _ (by rw [placeS, if_neg p1, if_pos p2])
        · rw [decide_eq_false p2] at i1
          by_cases p3 : i = fin
          · rw [decide_eq_true p3] at i2
            simp only [ic57_10, wkA, Nat.reduceEqDiff, Nat.reduceAdd, Nat.reduceSub, Nat.reduceLeDiff, Nat.reduceLT, Nat.reduceBEq, Nat.reduceBNe, reduceCtorEq, i0, wn, i1, i2]
            exact mid 3 _ (by rw [placeS, if_neg p1, if_neg p2, if_pos p3])
          · rw [decide_eq_false p3] at i2
            by_cases p4 : i + 1 = l.length
            · rw [decide_eq_true p4] at i3
              simp only [ic57_10, wkA, Nat.reduceEqDiff, Nat.reduceAdd, Nat.reduceSub, Nat.reduceLeDiff, Nat.reduceLT, Nat.reduceBEq, Nat.reduceBNe, reduceCtorEq, i0, wn, i1, i2, List.length_map, wl, i3]
              exact mid 4 _ (by rw [placeS, if_neg p1, if_neg p2, if_neg p3, if_pos p4])
            · rw [decide_eq_false p4] at i3
              simp only [ic57_10, wkA, Nat.reduceEqDiff, Nat.reduceAdd, Nat.reduceSub, Nat.reduceLeDiff, Nat.reduceLT, Nat.reduceBEq, Nat.reduceBNe, reduceCtorEq, i0, wn, i1, i2, List.length_map, wl, i3]
              exact mid 0 _ (by rw [placeS, if_neg p1, if_neg p2, if_neg p3, if_neg p4])
  · have e0 : decide ((i : Int) < (l.length : Int)) = false := decide_eq_false (by omega)
    have hd : l.drop i = [] := List.drop_of_length_le (by omega)
    rw [hd] at hp
    have hres : padH first l n fin = parH a pd (textS ((l.take fin).drop n)) (toksS (l.take n)) (toksS (l.drop fin)) l n := by
      rw [padH, hp]; rfl
    rw [hres]
    have f := fun ex => seg57_22 a pd l n fin (.bool first) ex hl hn hf hr
    simp only [obH, Hlf.av, Hlf.zero, Pat.av, Pat.zero, items, wkA, Nat.reduceEqDiff, Nat.reduceAdd, Nat.reduceSub, Nat.reduceLeDiff, Nat.reduceLT, Nat.reduceBEq, Nat.reduceBNe, reduceCtorEq] at f
    simp only [ic57_13, obH, Hlf.av, Hlf.zero, Pat.av, Pat.zero, items, wkA, Nat.reduceEqDiff, Nat.reduceAdd, Nat.reduceSub, Nat.reduceLeDiff, Nat.reduceLT, Nat.reduceBEq, Nat.reduceBNe, reduceCtorEq, List.length_map, e0]
    exact f _

theorem drop_getE {l : List El} {i : Nat} (h : i < l.length) : l.drop i = l.getD i elZ :: l.drop (i + 1) := by
  rw [List.drop_eq_getElem_cons h, List.getD_eq_getElem?_getD, List.getElem?_eq_getElem h]; rfl
theorem runS_end {l : List El} {e : Nat} (h : l.length ≤ e) : runS l e = e := by rw [runS, List.drop_of_length_le h]; rfl
theorem runS_yes {l : List El} {e : Nat} (h : e < l.length) (hb : (l.getD e elZ).body = true) : runS l e = runS l (e + 1) := by
  rw [runS, runS, drop_getE h, List.takeWhile_cons, if_pos hb, List.length_cons]; omega
theorem runS_no {l : List El} {e : Nat} (h : e < l.length) (hb : (l.getD e elZ).body = false) : runS l e = e := by
  rw [runS, drop_getE h, List.takeWhile_cons, if_neg (by rw [hb]; simp)]; rfl
theorem runS_ge (l : List El) (e : Nat) : e ≤ runS l e := by rw [runS]; omega
theorem runS_le {l : List El} {e : Nat} (h : e ≤ l.length) : runS l e ≤ l.length := by
  rw [runS]
  have : ((l.drop e).takeWhile El.body).length ≤ (l.drop e).length := (List.takeWhile_sublist _).length_le
  rw [List.length_drop] at this
  omega
abbrev tm57 (first : Bool) (l : List El) (n e : Nat) : List (Nat × AV) := [(0, .sl 4 (l.map El.av)), (2, .bool first), (6, .box 6 0), (7, .box 7 0), (8, i64 n), (9, i64 e)]
abbrev ob57 : List (Nat × Ob) := [(6, .box 76 (avCells Hlf.zero.av)), (7, .box 52 [i64 0, i64 0])]
def I57r (first : Bool) (l : List El) (n m : Nat) (j : Nat) (st : St) : Prop := ∃ (e : Nat) (ex : List (Nat × AV)), j = l.length - e ∧ m ≤ e ∧ e ≤ l.length ∧ st = ⟨tm57 first l n e ++ ex, ob57⟩ ∧ runS l m = runS l e
theorem seg57_7 (first : Bool) (l : List El) (n m : Nat) (ex : List (Nat × AV)) (hl : l.length < 90000) (hm : m ≤ l.length) (hn : n < l.length) (hnm : n ≤ m) (hr : ∀ e ∈ l, 0 ≤ e.t.r ∧ e.t.r < 2097152) (R : Except Flt Hlf) (hR : R = padH first l n (runS l m)) :
    VC e0 ic57_7 (thenQ (VC e0 ic57_23 (qH R)) (qH R)) ⟨tm57 first l n m ++ ex, ob57⟩ := by
  simp only [ic57_7, tm57, ob57, Hlf.av, Hlf.zero, Pat.av, Pat.zero, items, wkA, Nat.reduceEqDiff, Nat.reduceAdd, Nat.reduceSub, Nat.reduceLeDiff, Nat.reduceLT, Nat.reduceBEq, Nat.reduceBNe, reduceCtorEq]
  refine ⟨I57r first l n m, l.length - m, _, Gh.refl _, ⟨m, ex, rfl, Nat.le_refl _, hm, rfl, rfl⟩, ?_⟩
  rintro j st ⟨e, ex, rfl, hme, he, rfl, hrun⟩
  have out : runS l m = e → ∀ ex, VC F.e0 ic57_23 (qH R) ⟨tm57 first l n e ++ ex, ob57⟩ := by
    intro h ex
    rw [hR, h]
    exact seg57_23 first l n e ex hl hn ⟨by omega, he⟩ hr
  simp only [tm57, ob57, Hlf.av, Hlf.zero, Pat.av, Pat.zero, items, wkA, Nat.reduceEqDiff, Nat.reduceAdd, Nat.reduceSub, Nat.reduceLeDiff, Nat.reduceLT, Nat.reduceBEq, Nat.reduceBNe, reduceCtorEq] at out
  by_cases hlt : e < l.length
  · have h0 : decide ((e : Int) < (l.length : Int)) = true := decide_eq_true (by omega)
    have w1 : IntKind.i64.wrap ((e : Int) + 1) = ((e + 1 : Nat) : Int) := by rw [wrap64] <;> omega
    have hg := getEl hlt
    have c87 := con87 (l.getD e elZ)
    simp only [El.av] at hg c87
    cases hb : (l.getD e elZ).body with
    | true =>
      rw [hb] at c87
      simp only [ic57_6, tm57, ob57, Hlf.av, Hlf.zero, Pat.av, Pat.zero, items, wkA, Nat.reduceEqDiff, Nat.reduceAdd, Nat.reduceSub, Nat.reduceLeDiff, Nat.reduceLT, Nat.reduceBEq, Nat.reduceBNe, reduceCtorEq, List.length_map, h0, Int.toNat_natCast, hg]
      refine ⟨⟨by omega, by omega⟩, callF c87 rfl ?_⟩
      simp only [wkA, Nat.reduceEqDiff, Nat.reduceAdd, Nat.reduceSub, Nat.reduceLeDiff, Nat.reduceLT, Nat.reduceBEq, Nat.reduceBNe, reduceCtorEq]
      simp only [ic57_5, wkA, Nat.reduceEqDiff, Nat.reduceAdd, Nat.reduceSub, Nat.reduceLeDiff, Nat.reduceLT, Nat.reduceBEq, Nat.reduceBNe, reduceCtorEq, w1]
      exact ⟨_, l.length - (e + 1), Gh.refl _, by omega, e + 1, [], rfl, by omega, by omega, rfl, by rw [hrun, runS_yes hlt hb]⟩
    | false =>
      rw [hb] at c87
      simp only [ic57_6, tm57, ob57, Hlf.av, Hlf.zero, Pat.av, Pat.zero, items, wkA, Nat.reduceEqDiff, Nat.reduceAdd, Nat.reduceSub, Nat.reduceLeDiff, Nat.reduceLT, Nat.reduceBEq, Nat.reduceBNe, reduceCtorEq, List.length_map, h0, Int.toNat_natCast, hg]
      refine ⟨⟨by omega, by omega⟩, callF c87 rfl ?_⟩
      simp only [wkA, Nat.reduceEqDiff, Nat.reduceAdd, Nat.reduceSub, Nat.reduceLeDiff, Nat.reduceLT, Nat.reduceBEq, Nat.reduceBNe, reduceCtorEq]
      exact out (by rw [hrun, runS_no hlt hb]) _
  · have h0 : decide ((e : Int) < (l.length : Int)) = false := decide_eq_false (by omega)
    simp only [ic57_6, tm57, ob57, Hlf.av, Hlf.zero, Pat.av, Pat.zero, items, wkA, Nat.reduceEqDiff, Nat.reduceAdd, Nat.reduceSub, Nat.reduceLeDiff, Nat.reduceLT, Nat.reduceBEq, Nat.reduceBNe, reduceCtorEq, List.length_map, h0]
    exact out (by rw [hrun, runS_end (by omega)]) _

theorem plainAt_lt {l : List El} {i : Nat} {r : Int} (h : i < l.length) : plainAt l i r = (l.getD i elZ).plain r := by
  rw [plainAt, List.getElem?_eq_getElem h, List.getD_eq_getElem?_getD, List.getElem?_eq_getElem h]; rfl
theorem plainAt_ge {l : List El} {i : Nat} {r : Int} (h : l.length ≤ i) : plainAt l i r = false := by
  rw [plainAt, List.getElem?_eq_none h]
theorem seg57_24 (first : Bool) (l : List El) (n m : Nat) (ex : List (Nat × AV)) (hl : l.length < 90000) (hm : m ≤ l.length) (hn : n < l.length) (hnm : n ≤ m) (hr : ∀ e ∈ l, 0 ≤ e.t.r ∧ e.t.r < 2097152) (R : Except Flt Hlf)
    (hR : R = padH first l n (if plainAt l m 69 = true then runS l (if plainAt l (m + 1) 43 = true then m + 2 else m + 1) else m)) :
    VC e0 ic57_24 (qH R) ⟨tm57 first l n m ++ ex, ob57⟩ := by
  by_cases hlt : m < l.length
  · have h0 : decide ((m : Int) < (l.length : Int)) = true := decide_eq_true (by omega)
    have w1 : IntKind.i64.wrap ((m : Int) + 1) = ((m + 1 : Nat) : Int) := by rw [wrap64] <;> omega
    have hg := getEl hlt
    have c56 := con56 (l.getD m elZ) 69
    simp only [El.av] at hg c56
    cases hp : (l.getD m elZ).plain 69 with
    | false =>
      rw [hp] at c56
      rw [plainAt_lt hlt, hp, if_neg (by simp)] at hR
      have f := fun ex => seg57_23 first l n m ex hl hn ⟨hnm, hm⟩ hr
      rw [← hR] at f
      simp only [Hlf.av, Hlf.zero, Pat.av, Pat.zero, items, wkA, Nat.reduceEqDiff, Nat.reduceAdd, Nat.reduceSub, Nat.reduceLeDiff, Nat.reduceLT, Nat.reduceBEq, Nat.reduceBNe, reduceCtorEq] at f
      simp only [ic57_24, tm57, ob57, Hlf.av, Hlf.zero, Pat.av, Pat.zero, items, wkA, Nat.reduceEqDiff, Nat.reduceAdd, Nat.reduceSub, Nat.reduceLeDiff, Nat.reduceLT, Nat.reduceBEq, Nat.reduceBNe, reduceCtorEq, List.length_map, h0, Int.toNat_natCast, hg]
      refine ⟨⟨by omega, by omega⟩, callF c56 rfl ?_⟩
      simp only [wkA, Nat.reduceEqDiff, Nat.reduceAdd, Nat.reduceSub, Nat.reduceLeDiff, Nat.reduceLT, Nat.reduceBEq, Nat.reduceBNe, reduceCtorEq]
      exact f _
    | true =>
      rw [hp] at c56
      rw [plainAt_lt hlt, hp, if_pos rfl] at hR
      by_cases hlt2 : m + 1 < l.length
      · have h02 : decide (((m + 1 : Nat) : Int) < (l.length : Int)) = true := decide_eq_true (by omega)
        have w2 : IntKind.i64.wrap (((m + 1 : Nat) : Int) + 1) = ((m + 2 : Nat) : Int) := by rw [wrap64] <;> omega
        have hg2 := getEl hlt2
        have c562 := con56 (l.getD (m + 1) elZ) 43
        simp only [El.av] at hg2 c562
        cases hp2 : (l.getD (m + 1) elZ).plain 43 with
        | false =>
          rw [hp2] at c562
          rw [plainAt_lt hlt2, hp2, if_neg (by simp)] at hR
          have f := fun ex => seg57_7 first l n (m + 1) ex hl (by omega) hn (by omega) hr R hR
          simp only [tm57, ob57, Hlf.av, Hlf.zero, Pat.av, Pat.zero, items, wkA, Nat.reduceEqDiff, Nat.reduceAdd, Nat.reduceSub, Nat.reduceLeDiff, Nat.reduceLT, Nat.reduceBEq, Nat.reduceBNe, reduceCtorEq] at f
          simp only [ic57_24, tm57, ob57, Hlf.av, Hlf.zero, Pat.av, Pat.zero, items, wkA, Nat.reduceEqDiff, Nat.reduceAdd, Nat.reduceSub, Nat.reduceLeDiff, Nat.reduceLT, Nat.reduceBEq, Nat.reduceBNe, reduceCtorEq, List.length_map, h0, Int.toNat_natCast, hg]
          refine ⟨⟨by omega, by omega⟩, callF c56 rfl ?_⟩
          simp only [wkA, Nat.reduceEqDiff, Nat.reduceAdd, Nat.reduceSub, Nat.reduceLeDiff, Nat.reduceLT, Nat.reduceBEq, Nat.reduceBNe, reduceCtorEq, w1, List.length_map, h02, Int.toNat_natCast, hg2]
          refine ⟨⟨by omega, by omega⟩, callF c562 rfl ?_⟩
          simp only [wkA, Nat.reduceEqDiff, Nat.reduceAdd, Nat.reduceSub, Nat.reduceLeDiff, Nat.reduceLT, Nat.reduceBEq, Nat.reduceBNe, reduceCtorEq]
          exact f _
        | true =>
          rw [hp2] at c562
          rw [plainAt_lt hlt2, hp2, if_pos rfl] at hR
          have f := fun ex => seg57_7 first l n (m + 2) ex hl (by omega) hn (by omega) hr R hR
          simp only [tm57, ob57, Hlf.av, Hlf.zero, Pat.av, Pat.zero, items, wkA, Nat.reduceEqDiff, Nat.reduceAdd, Nat.reduceSub, Nat.reduceLeDiff, Nat.reduceLT, Nat.reduceBEq, Nat.reduceBNe, reduceCtorEq] at f
          simp only [ic57_24, tm57, ob57, Hlf.av, Hlf.zero, Pat.av, Pat.zero, items, wkA, Nat.reduceEqDiff, Nat.reduceAdd, Nat.reduceSub, Nat.reduceLeDiff, Nat.reduceLT, Nat.reduceBEq, Nat.reduceBNe, reduceCtorEq, List.length_map, h0, Int.toNat_natCast, hg]
          refine ⟨⟨by omega, by omega⟩, callF c56 rfl ?_⟩
          simp only [wkA, Nat.reduceEqDiff, Nat.reduceAdd, Nat.reduceSub, Nat.reduceLeDiff, Nat.reduceLT, Nat.reduceBEq, Nat.reduceBNe, reduceCtorEq, w1, List.length_map, h02, Int.toNat_natCast, hg2]
          refine ⟨⟨by omega, by omega⟩, callF c562 rfl ?_⟩
          simp only [wkA, Nat.reduceEqDiff, Nat.reduceAdd, Nat.reduceSub, Nat.reduceLeDiff, Nat.reduceLT, Nat.reduceBEq, Nat.reduceBNe, reduceCtorEq, w2]
          exact f _
      · have h02 : decide (((m + 1 : Nat) : Int) < (l.length : Int)) = false := decide_eq_false (by omega)
        rw [plainAt_ge (by omega), if_neg (by simp)] at hR
        have f := fun ex => seg57_7 first l n (m + 1) ex hl (by omega) hn (by omega) hr R hR
        simp only [tm57, ob57, Hlf.av, Hlf.zero, Pat.av, Pat.zero, items, wkA, Nat.reduceEqDiff, Nat.reduceAdd, Nat.reduceSub, Nat.reduceLeDiff, Nat.reduceLT, Nat.reduceBEq, Nat.reduceBNe, reduceCtorEq] at f
        simp only [ic57_24, tm57, ob57, Hlf.av, Hlf.zero, Pat.av, Pat.zero, items, wkA, Nat.reduceEqDiff, Nat.reduceAdd, Nat.reduceSub, Nat.reduceLeDiff, Nat.reduceLT, Nat.reduceBEq, Nat.reduceBNe, reduceCtorEq, List.length_map, h0, Int.toNat_natCast, hg]
        refine ⟨⟨by omega, by omega⟩, callF c56 rfl ?_⟩
        simp only [wkA, Nat.reduceEqDiff, Nat.reduceAdd, Nat.reduceSub, Nat.reduceLeDiff, Nat.reduceLT, Nat.reduceBEq, Nat.reduceBNe, reduceCtorEq, w1, List.length_map, h02]
        exact f _
  · have h0 : decide ((m : Int) < (l.length : Int)) = false := decide_eq_false (by omega)
    rw [plainAt_ge (by omega), if_neg (by simp)] at hR
    have f := fun ex => seg57_23 first l n m ex hl hn ⟨hnm, hm⟩ hr
    rw [← hR] at f
    simp only [Hlf.av, Hlf.zero, Pat.av, Pat.zero, items, wkA, Nat.reduceEqDiff, Nat.reduceAdd, Nat.reduceSub, Nat.reduceLeDiff, Nat.reduceLT, Nat.reduceBEq, Nat.reduceBNe, reduceCtorEq] at f
    simp only [ic57_24, tm57, ob57, Hlf.av, Hlf.zero, Pat.av, Pat.zero, items, wkA, Nat.reduceEqDiff, Nat.reduceAdd, Nat.reduceSub, Nat.reduceLeDiff, Nat.reduceLT, Nat.reduceBEq, Nat.reduceBNe, reduceCtorEq, List.length_map, h0]
    exact f _

theorem seg57_25 (first : Bool) (l : List El) (n : Nat) (v1 : AV) (ex : List (Nat × AV)) (hl : l.length < 90000) (hn : n < l.length) (hr : ∀ e ∈ l, 0 ≤ e.t.r ∧ e.t.r < 2097152) :
    VC e0 ic57_25 (qH (padH first l n (endS l n))) ⟨(0, .sl 4 (l.map El.av)) :: (1, v1) :: (2, .bool first) :: (6, .box 6 0) :: (7, .box 7 0) :: (8, i64 n) :: ex, ob57⟩ := by
  simp only [ic57_25, ob57, Hlf.av, Hlf.zero, Pat.av, Pat.zero, items, wkA, Nat.reduceEqDiff, Nat.reduceAdd, Nat.reduceSub, Nat.reduceLeDiff, Nat.reduceLT, Nat.reduceBEq, Nat.reduceBNe, reduceCtorEq]
  refine ⟨I57r first l n n, l.length - n, _, Gh.refl _, ⟨n, [], rfl, Nat.le_refl _, by omega, rfl, rfl⟩, ?_⟩
  rintro j st ⟨e, ex, rfl, hme, he, rfl, hrun⟩
  have out : runS l n = e → ∀ ex, VC F.e0 ic57_24 (qH (padH first l n (endS l n))) ⟨tm57 first l n e ++ ex, ob57⟩ := by
    intro h ex
    exact seg57_24 first l n e ex hl he hn hme hr _ (by rw [endS, h])
  simp only [tm57, ob57, Hlf.av, Hlf.zero, Pat.av, Pat.zero, items, wkA, Nat.reduceEqDiff, Nat.reduceAdd, Nat.reduceSub, Nat.reduceLeDiff, Nat.reduceLT, Nat.reduceBEq, Nat.reduceBNe, reduceCtorEq] at out
  by_cases hlt : e < l.length
  · have h0 : decide ((e : Int) < (l.length : Int)) = true := decide_eq_true (by omega)
    have w1 : IntKind.i64.wrap ((e : Int) + 1) = ((e + 1 : Nat) : Int) := by rw [wrap64] <;> omega
    have hg := getEl hlt
    have c87 := con87 (l.getD e elZ)
    simp only [El.av] at hg c87
    cases hb : (l.getD e elZ).body with
    | true =>
      rw [hb] at c87
      simp only [ic57_4, tm57, ob57, Hlf.av, Hlf.zero, Pat.av, Pat.zero, items, wkA, Nat.reduceEqDiff, Nat.reduceAdd, Nat.reduceSub, Nat.reduceLeDiff, Nat.reduceLT, Nat.reduceBEq, Nat.reduceBNe, reduceCtorEq, List.length_map, h0, Int.toNat_natCast, hg]
      refine ⟨⟨by omega, by omega⟩, callF c87 rfl ?_⟩
      simp only [wkA, Nat.reduceEqDiff, Nat.reduceAdd, Nat.reduceSub, Nat.reduceLeDiff, Nat.reduceLT, Nat.reduceBEq, Nat.reduceBNe, reduceCtorEq]
      simp only [ic57_3, wkA, Nat.reduceEqDiff, Nat.reduceAdd, Nat.reduceSub, Nat.reduceLeDiff, Nat.reduceLT, Nat.reduceBEq, Nat.reduceBNe, reduceCtorEq, w1]
      exact ⟨_, l.length - (e + 1), Gh.refl _, by omega, e + 1, [], rfl, by omega, by omega, rfl, by rw [hrun, runS_yes hlt hb]⟩
    | false =>
      rw [hb] at c87
      simp only [ic57_4, tm57, ob57, Hlf.av, Hlf.zero, Pat.av, Pat.zero, items, wkA, Nat.reduceEqDiff, Nat.reduceAdd, Nat.reduceSub, Nat.reduceLeDiff, Nat.reduceLT, Nat.reduceBEq, Nat.reduceBNe, reduceCtorEq, List.length_map, h0, Int.toNat_natCast, hg]
      refine ⟨⟨by omega, by omega⟩, callF c87 rfl ?_⟩
      simp only [wkA, Nat.reduceEqDiff, Nat.reduceAdd, Nat.reduceSub, Nat.reduceLeDiff, Nat.reduceLT, Nat.reduceBEq, Nat.reduceBNe, reduceCtorEq]
      exact out (by rw [hrun, runS_no hlt hb]) _
  · have h0 : decide ((e : Int) < (l.length : Int)) = false := decide_eq_false (by omega)
    simp only [ic57_4, tm57, ob57, Hlf.av, Hlf.zero, Pat.av, Pat.zero, items, wkA, Nat.reduceEqDiff, Nat.reduceAdd, Nat.reduceSub, Nat.reduceLeDiff, Nat.reduceLT, Nat.reduceBEq, Nat.reduceBNe, reduceCtorEq, List.length_map, h0]
    exact out (by rw [hrun, runS_end (by omega)]) _
/-- half's answer, step for step. -/
def hlfN (l : List El) (b : Int) (first : Bool) : Except Flt Hlf := if beginS l = l.length then .error ⟨4, b⟩ else padH first l (beginS l) (endS l (beginS l))
theorem beginS_le (l : List El) : beginS l ≤ l.length := by rw [beginS]; exact (List.takeWhile_sublist _).length_le
theorem seg57_26 (first : Bool) (l : List El) (b : Int) (ex : List (Nat × AV)) (hl : l.length < 90000) (hr : ∀ e ∈ l, 0 ≤ e.t.r ∧ e.t.r < 2097152) :
    VC e0 ic57_26 (qH (hlfN l b first)) ⟨(0, .sl 4 (l.map El.av)) :: (1, i64 b) :: (2, .bool first) :: (6, .box 6 0) :: (7, .box 7 0) :: (8, i64 (beginS l)) :: ex, ob57⟩ := by
  have hle := beginS_le l
  have e1 : (((beginS l : Nat) : Int) == (l.length : Int)) = decide (beginS l = l.length) := by rw [Bool.eq_iff_iff, beq_iff_eq, decide_eq_true_eq]; omega
  unfold hlfN
  by_cases h : beginS l = l.length
  · rw [decide_eq_true h] at e1
    rw [if_pos h]
    simp only [ic57_26, ob57, Hlf.av, Hlf.zero, Pat.av, Pat.zero, items, wkA, Nat.reduceEqDiff, Nat.reduceAdd, Nat.reduceSub, Nat.reduceLeDiff, Nat.reduceLT, Nat.reduceBEq, Nat.reduceBNe, reduceCtorEq, List.length_map, e1]
    rfl
  · rw [decide_eq_false h] at e1
    rw [if_neg h]
    have f := fun ex => seg57_25 first l (beginS l) (i64 b) ex hl (by omega) hr
    simp only [ob57, Hlf.av, Hlf.zero, Pat.av, Pat.zero, items, wkA, Nat.reduceEqDiff, Nat.reduceAdd, Nat.reduceSub, Nat.reduceLeDiff, Nat.reduceLT, Nat.reduceBEq, Nat.reduceBNe, reduceCtorEq] at f
    simp only [ic57_26, ob57, Hlf.av, Hlf.zero, Pat.av, Pat.zero, items, wkA, Nat.reduceEqDiff, Nat.reduceAdd, Nat.reduceSub, Nat.reduceLeDiff, Nat.reduceLT, Nat.reduceBEq, Nat.reduceBNe, reduceCtorEq, List.length_map, e1]
    exact f _
def I57b (first : Bool) (l : List El) (b : Int) (j : Nat) (st : St) : Prop := ∃ (k : Nat), j = l.length - k ∧ k ≤ l.length ∧ st = ⟨[(0, .sl 4 (l.map El.av)), (1, i64 b), (2, .bool first), (6, .box 6 0), (7, .box 7 0), (8, i64 k)], ob57⟩ ∧ beginS l = k + beginS (l.drop k)
theorem beginS_cons (e : El) (l : List El) : beginS (e :: l) = if e.body = true then 0 else beginS l + 1 := by
  rw [beginS, List.takeWhile_cons]
  cases h : e.body <;> simp [beginS]
theorem con57N (l : List El) (b : Int) (first : Bool) (hl : l.length < 90000) (hr : ∀ e ∈ l, 0 ≤ e.t.r ∧ e.t.r < 2097152) : Fn 57 [.sl 4 (l.map El.av), i64 b, .bool first] (resH (hlfN l b first)) := by
  refine e57 (by simp) ?_
  simp only [ic57, wkA, Nat.reduceEqDiff, Nat.reduceAdd, Nat.reduceSub, Nat.reduceLeDiff, Nat.reduceLT, Nat.reduceBEq, Nat.reduceBNe, reduceCtorEq]
  refine ⟨I57b first l b, l.length, _, Gh.refl _, ⟨0, rfl, by omega, rfl, by simp⟩, ?_⟩
  rintro j st ⟨k, rfl, hk, rfl, hb⟩
  have out : beginS l = k → ∀ ex, VC F.e0 ic57_26 (qH (hlfN l b first)) ⟨(0, .sl 4 (l.map El.av)) :: (1, i64 b) :: (2, .bool first) :: (6, .box 6 0) :: (7, .box 7 0) :: (8, i64 k) :: ex, ob57⟩ := by
    intro h ex
    have := seg57_26 first l b ex hl hr
    rwa [h] at this
  simp only [ob57, Hlf.av, Hlf.zero, Pat.av, Pat.zero, items, wkA, Nat.reduceEqDiff, Nat.reduceAdd, Nat.reduceSub, Nat.reduceLeDiff, Nat.reduceLT, Nat.reduceBEq, Nat.reduceBNe, reduceCtorEq] at out
  by_cases hlt : k < l.length
  · have h0 : decide ((k : Int) < (l.length : Int)) = true := decide_eq_true (by omega)
    have w1 : IntKind.i64.wrap ((k : Int) + 1) = ((k + 1 : Nat) : Int) := by rw [wrap64] <;> omega
    have hg := getEl hlt
    have c87 := con87 (l.getD k elZ)
    simp only [El.av] at hg c87
    rw [drop_getE hlt, beginS_cons] at hb
    cases hbd : (l.getD k elZ).body with
    | true =>
      rw [hbd] at c87
      rw [hbd, if_pos rfl] at hb
      simp only [ic57_2, ob57, Hlf.av, Hlf.zero, Pat.av, Pat.zero, items, wkA, Nat.reduceEqDiff, Nat.reduceAdd, Nat.reduceSub, Nat.reduceLeDiff, Nat.reduceLT, Nat.reduceBEq, Nat.reduceBNe, reduceCtorEq, List.length_map, h0, Int.toNat_natCast, hg]
      refine ⟨⟨by omega, by omega⟩, callF c87 rfl ?_⟩
      simp only [wkA, Nat.reduceEqDiff, Nat.reduceAdd, Nat.reduceSub, Nat.reduceLeDiff, Nat.reduceLT, Nat.reduceBEq, Nat.reduceBNe, reduceCtorEq, Bool.not_true]
      exact out (by omega) _
    | false =>
      rw [hbd] at c87
      rw [hbd, if_neg (by simp)] at hb
      simp only [ic57_2, ob57, Hlf.av, Hlf.zero, Pat.av, Pat.zero, items, wkA, Nat.reduceEqDiff, Nat.reduceAdd, Nat.reduceSub, Nat.reduceLeDiff, Nat.reduceLT, Nat.reduceBEq, Nat.reduceBNe, reduceCtorEq, List.length_map, h0, Int.toNat_natCast, hg]
      refine ⟨⟨by omega, by omega⟩, callF c87 rfl ?_⟩
      simp only [wkA, Nat.reduceEqDiff, Nat.reduceAdd, Nat.reduceSub, Nat.reduceLeDiff, Nat.reduceLT, Nat.reduceBEq, Nat.reduceBNe, reduceCtorEq, Bool.not_false]
      simp only [ic57_1, wkA, Nat.reduceEqDiff, Nat.reduceAdd, Nat.reduceSub, Nat.reduceLeDiff, Nat.reduceLT, Nat.reduceBEq, Nat.reduceBNe, reduceCtorEq, w1]
      exact ⟨_, l.length - (k + 1), Gh.refl _, by omega, k + 1, rfl, by omega, rfl, by omega⟩
  · have h0 : decide ((k : Int) < (l.length : Int)) = false := decide_eq_false (by omega)
    have hd : l.drop k = [] := List.drop_of_length_le (by omega)
    rw [hd] at hb
    simp only [ic57_2, ob57, Hlf.av, Hlf.zero, Pat.av, Pat.zero, items, wkA, Nat.reduceEqDiff, Nat.reduceAdd, Nat.reduceSub, Nat.reduceLeDiff, Nat.reduceLT, Nat.reduceBEq, Nat.reduceBNe, reduceCtorEq, List.length_map, h0]
    exact out (by rw [hb]; simp [beginS]) _

theorem hlfN_eq (l : List El) (b : Int) (first : Bool) : hlfN l b first = halfS l b first := by
  unfold hlfN halfS
  have hle := beginS_le l
  simp only
  generalize hn : beginS l = n at *
  by_cases h : n = l.length
  · rw [if_pos h, if_pos h]
  · rw [if_neg h, if_neg h]
    unfold padH
    cases padS first n (endS l n) l.length l 0 0 (0, 0) with
    | error f => rfl
    | ok hh =>
      simp only
      unfold parH
      cases itemsT (toksS (l.take n)) with
      | error f => rfl
      | ok x =>
        simp only
        unfold numH
        cases numberS (textS ((l.take (endS l n)).drop n)) with
        | error e =>
          simp only
          rw [List.getD_eq_getElem?_getD, List.getElem?_eq_getElem (show n < l.length by omega)]
          rfl
        | ok p =>
          simp only
          unfold sufH
          cases itemsT (toksS (l.drop (endS l n))) with
          | error f => rfl
          | ok y => rfl
theorem con57 (l : List El) (b : Int) (first : Bool) (hl : l.length < 90000) (hr : ∀ e ∈ l, 0 ≤ e.t.r ∧ e.t.r < 2097152) : Fn 57 [.sl 4 (l.map El.av), i64 b, .bool first] (resH (halfS l b first)) := by
  rw [← hlfN_eq]; exact con57N l b first hl hr

def cntI (l : List (Int × Int)) (k : Int) : Nat := (l.filter fun x => x.1 == k).length
theorem cntI_cons (x : Int × Int) (l : List (Int × Int)) (k : Int) : cntI (x :: l) k = (if (x.1 == k) = true then 1 else 0) + cntI l k := by
  unfold cntI; rw [List.filter_cons]; split
  · simp; omega
  · simp
def four (p : Pat) : List (List (Int × Int)) := [p.pre, p.suf, p.npre, p.nsuf]
def sigT (p : Pat) (k : Int) (j : Nat) : Nat := (((four p).drop j).map fun l => cntI l k).sum
theorem getI {l : List (Int × Int)} {i : Nat} (h : i < l.length) : (l.map itemA).getD i .top = itemA (l.getD i (0, 0)) := by
  simp [List.getD_eq_getElem?_getD, h]
def I53 (p : Pat) (k : Int) (m : Nat) (st : St) : Prop := ∃ (j c : Nat), m = 4 - j ∧ j ≤ 4 ∧ c ≤ 1000 * j ∧ st = ⟨[(1, i64 k), (5, i64 c), (17, .sl 1 ((four p).map items)), (18, i64 4), (19, i64 j)], []⟩ ∧ c + sigT p k j = sigT p k 0
def I53i (p : Pat) (k : Int) (l : List (Int × Int)) (j c0 : Nat) (m : Nat) (st : St) : Prop := ∃ (i c : Nat), m = l.length - i ∧ i ≤ l.length ∧ c ≤ c0 + i ∧ st = ⟨[(1, i64 k), (5, i64 c), (7, items l), (8, i64 i), (17, .sl 1 ((four p).map items)), (18, i64 4), (19, i64 j)], []⟩ ∧ c + cntI (l.drop i) k = c0 + cntI l k
theorem con53 {p : Pat} (k : Int) (hlen : ∀ l ∈ four p, l.length ≤ 1000) : Fn 53 [p.av, i64 k] (i64 (sigT p k 0)) := by
  refine e53 (by simp) ?_
  simp only [ic53, Pat.av, items, wkA, Nat.reduceEqDiff, Nat.reduceAdd, Nat.reduceSub, Nat.reduceLeDiff, Nat.reduceLT, Nat.reduceBEq, Nat.reduceBNe, reduceCtorEq]
  refine ⟨I53 p k, 4, _, Gh.refl _, ⟨0, 0, rfl, by omega, by omega, rfl, by omega⟩, ?_⟩
  rintro m st ⟨j, c, rfl, hj, hcj, rfl, hc⟩
  by_cases hlt : j < 4
  · have h0 : decide ((j : Int) < 4) = true := decide_eq_true (by omega)
    have w1 : IntKind.i64.wrap ((j : Int) + 1) = ((j + 1 : Nat) : Int) := by rw [wrap64] <;> omega
    obtain ⟨l, hl1, hl2, hl3⟩ : ∃ l, ((four p).map items).getD j .top = items l ∧ l ∈ four p ∧ sigT p k j = cntI l k + sigT p k (j + 1) := by
      match j, hlt with
      | 0, _ => exact ⟨p.pre, rfl, by simp [four], by simp [sigT, four]⟩
      | 1, _ => exact ⟨p.suf, rfl, by simp [four], by simp [sigT, four]⟩
      | 2, _ => exact ⟨p.npre, rfl, by simp [four], by simp [sigT, four]⟩
      | 3, _ => exact ⟨p.nsuf, rfl, by simp [four], by simp [sigT, four]⟩
    have hll := hlen l hl2
    have h4 : ((four p).map items).length = 4 := rfl
    simp only [items] at hl1
    simp only [ic53_6, wkA, Nat.reduceEqDiff, Nat.reduceAdd, Nat.reduceSub, Nat.reduceLeDiff, Nat.reduceLT, Nat.reduceBEq, Nat.reduceBNe, reduceCtorEq, h0]
    simp only [ic53_5, wkA, Nat.reduceEqDiff, Nat.reduceAdd, Nat.reduceSub, Nat.reduceLeDiff, Nat.reduceLT, Nat.reduceBEq, Nat.reduceBNe, reduceCtorEq, Int.toNat_natCast, h4, hl1, items]
    refine ⟨⟨by omega, by omega⟩, ?_⟩
    refine ⟨I53i p k l j c, l.length, _, Gh.refl _, ⟨0, c, by omega, by omega, by omega, rfl, by simp⟩, ?_⟩
    rintro m st ⟨i, c2, rfl, hi, hci, rfl, hc2⟩
    by_cases hil : i < l.length
    · have i0 : decide ((i : Int) < (l.length : Int)) = true := decide_eq_true (by omega)
      have wi : IntKind.i64.wrap ((i : Int) + 1) = ((i + 1 : Nat) : Int) := by rw [wrap64] <;> omega
      have wc : IntKind.i64.wrap ((c2 : Int) + 1) = ((c2 + 1 : Nat) : Int) := by rw [wrap64] <;> omega
      have hg := getI hil
      have hd : l.drop i = l.getD i (0, 0) :: l.drop (i + 1) := by
        rw [List.drop_eq_getElem_cons hil, List.getD_eq_getElem?_getD, List.getElem?_eq_getElem hil]; rfl
      rw [hd, cntI_cons] at hc2
      simp only [itemA] at hg
      cases hk : ((l.getD i (0, 0)).1 == k) with
      | true =>
        rw [hk, if_pos rfl] at hc2
        simp only [ic53_3, items, wkA, Nat.reduceEqDiff, Nat.reduceAdd, Nat.reduceSub, Nat.reduceLeDiff, Nat.reduceLT, Nat.reduceBEq, Nat.reduceBNe, reduceCtorEq, List.length_map, i0]
        simp only [ic53_2, ic53_1, wkA, Nat.reduceEqDiff, Nat.reduceAdd, Nat.reduceSub, Nat.reduceLeDiff, Nat.reduceLT, Nat.reduceBEq, Nat.reduceBNe, reduceCtorEq, Int.toNat_natCast, List.length_map, itemA, hg, hk, wi, wc]
        refine ⟨⟨by omega, by omega⟩, _, l.length - (i + 1), Gh.refl _, by omega, i + 1, c2 + 1, rfl, by omega, by omega, rfl, by omega⟩
      | false =>
        rw [hk, if_neg (by simp)] at hc2
        simp only [ic53_3, items, wkA, Nat.reduceEqDiff, Nat.reduceAdd, Nat.reduceSub, Nat.reduceLeDiff, Nat.reduceLT, Nat.reduceBEq, Nat.reduceBNe, reduceCtorEq, List.length_map, i0]
        simp only [ic53_2, ic53_1, wkA, Nat.reduceEqDiff, Nat.reduceAdd, Nat.reduceSub, Nat.reduceLeDiff, Nat.reduceLT, Nat.reduceBEq, Nat.reduceBNe, reduceCtorEq, Int.toNat_natCast, List.length_map, itemA, hg, hk, wi]
        refine ⟨⟨by omega, by omega⟩, _, l.length - (i + 1), Gh.refl _, by omega, i + 1, c2, rfl, by omega, by omega, rfl, by omega⟩
    · have i0 : decide ((i : Int) < (l.length : Int)) = false := decide_eq_false (by omega)
      have hd : l.drop i = [] := List.drop_of_length_le (by omega)
      rw [hd] at hc2
      have hz : cntI [] k = 0 := rfl
      simp only [ic53_3, items, wkA, Nat.reduceEqDiff, Nat.reduceAdd, Nat.reduceSub, Nat.reduceLeDiff, Nat.reduceLT, Nat.reduceBEq, Nat.reduceBNe, reduceCtorEq, List.length_map, i0]
      simp only [ic53_4, wkA, Nat.reduceEqDiff, Nat.reduceAdd, Nat.reduceSub, Nat.reduceLeDiff, Nat.reduceLT, Nat.reduceBEq, Nat.reduceBNe, reduceCtorEq, w1]
      refine ⟨_, 4 - (j + 1), Gh.refl _, by omega, j + 1, c2, rfl, by omega, by omega, rfl, by omega⟩
  · have h0 : decide ((j : Int) < 4) = false := decide_eq_false (by omega)
    have hj4 : j = 4 := by omega
    subst hj4
    have hz : sigT p k 4 = 0 := rfl
    have e4 : decide (((4 : Nat) : Int) < 4) = false := rfl
    rw [← hc, hz]
    simp only [ic53_6, wkA, Nat.reduceEqDiff, Nat.reduceAdd, Nat.reduceSub, Nat.reduceLeDiff, Nat.reduceLT, Nat.reduceBEq, Nat.reduceBNe, reduceCtorEq, e4]
    simp only [ic53_7, wkA, Nat.reduceEqDiff, Nat.reduceAdd, Nat.reduceSub, Nat.reduceLeDiff, Nat.reduceLT, Nat.reduceBEq, Nat.reduceBNe, reduceCtorEq]

def resC (r : Except Flt Pat) : AV := match r with
  | .error f => .tup [Pat.zero.av, f.av]
  | .ok p => .tup [p.av, (Flt.mk 0 0).av]
abbrev qC (r : Except Flt Pat) : Exit → St → Prop := retQ [(2, some (some 20)), (3, some (some 2))] (resC r)
/-- Percent and permille do not stand together. -/
def finS (p : Pat) : Except Flt Pat := if p.has 4 = true ∧ p.has 5 = true then .error ⟨6, 0⟩ else .ok p
theorem sigT_has (p : Pat) (k : Int) : decide ((sigT p k 0 : Int) > 0) = p.has k := by
  have h : ∀ l : List (Int × Int), (0 < cntI l k) ↔ l.any (fun x => x.1 == k) = true := by
    intro l
    unfold cntI
    rw [List.length_pos_iff, List.any_eq_true]
    constructor
    · intro h
      obtain ⟨x, hx⟩ := List.exists_mem_of_ne_nil _ h
      rw [List.mem_filter] at hx
      exact ⟨x, hx⟩
    · rintro ⟨x, h1, h2⟩ e
      have : x ∈ l.filter fun x => x.1 == k := List.mem_filter.2 ⟨h1, h2⟩
      rw [e] at this
      simp at this
  have a := h p.pre
  have b := h p.suf
  have c := h p.npre
  have d := h p.nsuf
  unfold Pat.has
  rw [List.any_append, List.any_append, List.any_append, Bool.eq_iff_iff, decide_eq_true_eq, Bool.or_eq_true, Bool.or_eq_true, Bool.or_eq_true, ← a, ← b, ← c, ← d]
  simp only [sigT, four, List.drop_zero, List.map_cons, List.map_nil, List.sum_cons, List.sum_nil]
  omega
/-- The results' boxes. -/
def obC : List (Nat × Ob) := [(2, .box 26 (avCells Pat.zero.av)), (3, .box 52 [i64 0, i64 0])]
theorem seg31_12 (p : Pat) (hlen : ∀ l ∈ four p, l.length ≤ 1000) (ex : List (Nat × AV)) (oex : List (Nat × Ob)) :
    VC e0 ic31_12 (qC (finS p)) ⟨(2, .box 2 0) :: (3, .box 3 0) :: (13, .box 13 0) :: ex, obC ++ (13, .box 26 (avCells p.av)) :: oex⟩ := by
  have c4 := con53 4 hlen
  have c5 := con53 5 hlen
  have s4 := sigT_has p 4
  have s5 := sigT_has p 5
  generalize sigT p 4 0 = n4 at *
  generalize sigT p 5 0 = n5 at *
  unfold finS
  simp only [Pat.av, items] at c4 c5
  cases h4 : p.has 4 with
  | false =>
    rw [h4] at s4
    rw [if_neg (by simp)]
    simp only [ic31_12, obC, Pat.av, Pat.zero, items, wkA, Nat.reduceEqDiff, Nat.reduceAdd, Nat.reduceSub, Nat.reduceLeDiff, Nat.reduceLT, Nat.reduceBEq, Nat.reduceBNe, reduceCtorEq]
    refine callF c4 rfl ?_
    simp only [wkA, Nat.reduceEqDiff, Nat.reduceAdd, Nat.reduceSub, Nat.reduceLeDiff, Nat.reduceLT, Nat.reduceBEq, Nat.reduceBNe, reduceCtorEq, s4]
    simp only [ic31_11, wkA, Nat.reduceEqDiff, Nat.reduceAdd, Nat.reduceSub, Nat.reduceLeDiff, Nat.reduceLT, Nat.reduceBEq, Nat.reduceBNe, reduceCtorEq]
    rfl
  | true =>
    rw [h4] at s4
    cases h5 : p.has 5 with
    | false =>
      rw [h5] at s5
      rw [if_neg (by simp)]
      simp only [ic31_12, obC, Pat.av, Pat.zero, items, wkA, Nat.reduceEqDiff, Nat.reduceAdd, Nat.reduceSub, Nat.reduceLeDiff, Nat.reduceLT, Nat.reduceBEq, Nat.reduceBNe, reduceCtorEq]
      refine callF c4 rfl ?_
      simp only [wkA, Nat.reduceEqDiff, Nat.reduceAdd, Nat.reduceSub, Nat.reduceLeDiff, Nat.reduceLT, Nat.reduceBEq, Nat.reduceBNe, reduceCtorEq, s4]
      refine callF c5 rfl ?_
      simp only [wkA, Nat.reduceEqDiff, Nat.reduceAdd, Nat.reduceSub, Nat.reduceLeDiff, Nat.reduceLT, Nat.reduceBEq, Nat.reduceBNe, reduceCtorEq, s5]
      simp only [ic31_11, wkA, Nat.reduceEqDiff, Nat.reduceAdd, Nat.reduceSub, Nat.reduceLeDiff, Nat.reduceLT, Nat.reduceBEq, Nat.reduceBNe, reduceCtorEq]
      rfl
    | true =>
      rw [h5] at s5
      rw [if_pos ⟨rfl, rfl⟩]
      simp only [ic31_12, obC, Pat.av, Pat.zero, items, wkA, Nat.reduceEqDiff, Nat.reduceAdd, Nat.reduceSub, Nat.reduceLeDiff, Nat.reduceLT, Nat.reduceBEq, Nat.reduceBNe, reduceCtorEq]
      refine callF c4 rfl ?_
      simp only [wkA, Nat.reduceEqDiff, Nat.reduceAdd, Nat.reduceSub, Nat.reduceLeDiff, Nat.reduceLT, Nat.reduceBEq, Nat.reduceBNe, reduceCtorEq, s4]
      refine callF c5 rfl ?_
      simp only [wkA, Nat.reduceEqDiff, Nat.reduceAdd, Nat.reduceSub, Nat.reduceLeDiff, Nat.reduceLT, Nat.reduceBEq, Nat.reduceBNe, reduceCtorEq, s5]
      rfl
theorem seg31_12b (p : Pat) (a b : AV) (hlen : ∀ l ∈ four p, l.length ≤ 1000) (ex : List (Nat × AV)) (oex : List (Nat × Ob)) :
    VC e0 ic31_12 (qC (finS p)) ⟨(2, .box 2 0) :: (3, .box 3 0) :: (6, a) :: (9, b) :: (13, .box 13 0) :: ex, obC ++ (13, .box 26 (avCells p.av)) :: oex⟩ := by
  have c4 := con53 4 hlen
  have c5 := con53 5 hlen
  have s4 := sigT_has p 4
  have s5 := sigT_has p 5
  generalize sigT p 4 0 = n4 at *
  generalize sigT p 5 0 = n5 at *
  unfold finS
  simp only [Pat.av, items] at c4 c5
  cases h4 : p.has 4 with
  | false =>
    rw [h4] at s4
    rw [if_neg (by simp)]
    simp only [ic31_12, obC, Pat.av, Pat.zero, items, wkA, Nat.reduceEqDiff, Nat.reduceAdd, Nat.reduceSub, Nat.reduceLeDiff, Nat.reduceLT, Nat.reduceBEq, Nat.reduceBNe, reduceCtorEq]
    refine callF c4 rfl ?_
    simp only [wkA, Nat.reduceEqDiff, Nat.reduceAdd, Nat.reduceSub, Nat.reduceLeDiff, Nat.reduceLT, Nat.reduceBEq, Nat.reduceBNe, reduceCtorEq, s4]
    simp only [ic31_11, wkA, Nat.reduceEqDiff, Nat.reduceAdd, Nat.reduceSub, Nat.reduceLeDiff, Nat.reduceLT, Nat.reduceBEq, Nat.reduceBNe, reduceCtorEq]
    rfl
  | true =>
    rw [h4] at s4
    cases h5 : p.has 5 with
    | false =>
      rw [h5] at s5
      rw [if_neg (by simp)]
      simp only [ic31_12, obC, Pat.av, Pat.zero, items, wkA, Nat.reduceEqDiff, Nat.reduceAdd, Nat.reduceSub, Nat.reduceLeDiff, Nat.reduceLT, Nat.reduceBEq, Nat.reduceBNe, reduceCtorEq]
      refine callF c4 rfl ?_
      simp only [wkA, Nat.reduceEqDiff, Nat.reduceAdd, Nat.reduceSub, Nat.reduceLeDiff, Nat.reduceLT, Nat.reduceBEq, Nat.reduceBNe, reduceCtorEq, s4]
      refine callF c5 rfl ?_
      simp only [wkA, Nat.reduceEqDiff, Nat.reduceAdd, Nat.reduceSub, Nat.reduceLeDiff, Nat.reduceLT, Nat.reduceBEq, Nat.reduceBNe, reduceCtorEq, s5]
      simp only [ic31_11, wkA, Nat.reduceEqDiff, Nat.reduceAdd, Nat.reduceSub, Nat.reduceLeDiff, Nat.reduceLT, Nat.reduceBEq, Nat.reduceBNe, reduceCtorEq]
      rfl
    | true =>
      rw [h5] at s5
      rw [if_pos ⟨rfl, rfl⟩]
      simp only [ic31_12, obC, Pat.av, Pat.zero, items, wkA, Nat.reduceEqDiff, Nat.reduceAdd, Nat.reduceSub, Nat.reduceLeDiff, Nat.reduceLT, Nat.reduceBEq, Nat.reduceBNe, reduceCtorEq]
      refine callF c4 rfl ?_
      simp only [wkA, Nat.reduceEqDiff, Nat.reduceAdd, Nat.reduceSub, Nat.reduceLeDiff, Nat.reduceLT, Nat.reduceBEq, Nat.reduceBNe, reduceCtorEq, s4]
      refine callF c5 rfl ?_
      simp only [wkA, Nat.reduceEqDiff, Nat.reduceAdd, Nat.reduceSub, Nat.reduceLeDiff, Nat.reduceLT, Nat.reduceBEq, Nat.reduceBNe, reduceCtorEq, s5]
      rfl

theorem padS_err (first : Bool) (n fin len : Nat) : ∀ (l : List El) (i pads : Nat) (h : Nat × Int) {f : Flt}, padS first n fin len l i pads h = .error f → f.e ≠ 0 := by
  intro l
  induction l with
  | nil => intro i pads h f e; cases e
  | cons x l ih =>
    intro i pads h f e
    rw [padS] at e
    split at e
    · exact ih _ _ _ e
    · split at e
      · injection e with e; subst e; simp
      · exact ih _ _ _ e
theorem halfS_err {l : List El} {b : Int} {first : Bool} {f : Flt} (h : halfS l b first = .error f) : f.e ≠ 0 := by
  unfold halfS at h
  simp only at h
  split at h
  · injection h with h; subst h; simp
  · split at h
    · rename_i g hg
      injection h with h; subst h
      exact padS_err _ _ _ _ _ _ _ _ hg
    · split at h
      · rename_i g hg
        injection h with h; subst h
        exact itemsT_err hg
      · split at h
        · rename_i g hg
          injection h with h; subst h
          exact numberS_err hg
        · split at h
          · rename_i g hg
            injection h with h; subst h
            exact itemsT_err hg
          · cases h
theorem neI {x y : Int} : (x != y) = decide (x ≠ y) := by rw [Bool.eq_iff_iff, bne_iff_ne, decide_eq_true_eq]
def semiI (o : Option Nat) : Int := match o with
  | none => -1
  | some k => k
/-- The second half, if there is one. -/
def secS (p : Pat) (all : List El) (o : Option Nat) : Except Flt Pat := match o with
  | none => finS p
  | some k => match halfS (all.drop (k + 1)) ((all.getD k elZ).t.at_ + 1) false with
    | .error f => .error f
    | .ok b => finS { p with hasNeg := true, npre := b.pre, nsuf := b.suf }
theorem seg31_13 (p : Pat) (a : Hlf) (all : List El) (o : Option Nat) (ex : List (Nat × AV))
    (hl : all.length < 90000) (hr : ∀ e ∈ all, (0 ≤ e.t.r ∧ e.t.r < 2097152) ∧ e.t.at_ < 1099511627776) (ho : ∀ k, o = some k → k < all.length) (hpre : a.pre.length ≤ 40) (hsuf : a.suf.length ≤ 40) (hp : p.pre.length ≤ 40 ∧ p.suf.length ≤ 40) :
    VC e0 ic31_13 (qC (secS { p with npre := (2, 0) :: a.pre, nsuf := a.suf } all o)) ⟨(2, .box 2 0) :: (3, .box 3 0) :: (6, .sl 4 (all.map El.av)) :: (9, i64 (semiI o)) :: (12, .box 12 0) :: (13, .box 13 0) :: ex,
      obC ++ (12, .box 76 (avCells a.av)) :: (13, .box 26 (avCells p.av)) :: []⟩ := by
  cases o with
  | none =>
    have e1 : decide ((-1 : Int) ≥ 0) = false := rfl
    unfold secS semiI
    simp only [ic31_13, obC, Hlf.av, Pat.av, Pat.zero, items, itemA, wkA, Nat.reduceEqDiff, Nat.reduceAdd, Nat.reduceSub, Nat.reduceLeDiff, Nat.reduceLT, Nat.reduceBEq, Nat.reduceBNe, reduceCtorEq, e1, List.length_map]
    refine ⟨by omega, ?_⟩
    have := seg31_12b { p with npre := (2, 0) :: a.pre, nsuf := a.suf } (.sl 4 (all.map El.av)) (i64 (-1)) (by
      intro l hl
      simp only [four, List.mem_cons, List.not_mem_nil, or_false] at hl
      rcases hl with rfl | rfl | rfl | rfl <;> (try simp) <;> omega) [(140, .bool false)] []
    simp only [obC, Pat.av, Pat.zero, items, itemA, wkA, Nat.reduceEqDiff, Nat.reduceAdd, Nat.reduceSub, Nat.reduceLeDiff, Nat.reduceLT, Nat.reduceBEq, Nat.reduceBNe, reduceCtorEq] at this
    exact this
  | some k =>
    have hk := ho k rfl
    have e1 : decide (((k : Nat) : Int) ≥ 0) = true := decide_eq_true (by omega)
    have w1 : IntKind.i64.wrap ((k : Int) + 1) = ((k + 1 : Nat) : Int) := by rw [wrap64] <;> omega
    have hg := getEl hk
    have hm : all.getD k elZ ∈ all := by rw [List.getD_eq_getElem?_getD, List.getElem?_eq_getElem hk]; exact List.getElem_mem _
    have hat := (hr _ hm).2
    have w2 : IntKind.i64.wrap (((all.getD k elZ).t.at_ : Int) + 1) = (all.getD k elZ).t.at_ + 1 := by rw [wrap64] <;> omega
    have hd : ((all.map El.av).drop (k + 1)) = ((all.drop (k + 1)).map El.av) := by rw [List.map_drop]
    have ht : ((all.drop (k + 1)).map El.av).take (all.length - (k + 1)) = ((all.drop (k + 1)).map El.av) := List.take_of_length_le (by simp)
    have c := con57 (all.drop (k + 1)) ((all.getD k elZ).t.at_ + 1) false (by simp; omega) (fun e he => (hr e (List.mem_of_mem_drop he)).1)
    simp only [El.av] at hg
    unfold semiI
    simp only
    cases hh : halfS (all.drop (k + 1)) ((all.getD k elZ).t.at_ + 1) false with
    | error f =>
      rw [hh] at c
      have hR : secS { p with npre := (2, 0) :: a.pre, nsuf := a.suf } all (some k) = .error f := by
        unfold secS
        simp only
        rw [hh]
      rw [hR]
      have ef : (f.e != 0) = true := by rw [neI, decide_eq_true_eq]; exact halfS_err hh
      simp only [resH, Hlf.av, Hlf.zero, Pat.av, Pat.zero, items, Flt.av, wkA, Nat.reduceEqDiff, Nat.reduceAdd, Nat.reduceSub, Nat.reduceLeDiff, Nat.reduceLT, Nat.reduceBEq, Nat.reduceBNe, reduceCtorEq] at c
      simp only [ic31_13, obC, Hlf.av, Pat.av, Pat.zero, items, itemA, wkA, Nat.reduceEqDiff, Nat.reduceAdd, Nat.reduceSub, Nat.reduceLeDiff, Nat.reduceLT, Nat.reduceBEq, Nat.reduceBNe, reduceCtorEq, e1, List.length_map]
      refine ⟨by omega, ?_⟩
      simp only [wkA, Nat.reduceEqDiff, Nat.reduceAdd, Nat.reduceSub, Nat.reduceLeDiff, Nat.reduceLT, Nat.reduceBEq, Nat.reduceBNe, reduceCtorEq, w1, Int.toNat_natCast, hg, hd, w2, List.length_map]
      refine ⟨⟨by omega, by omega⟩, ⟨by omega, by omega⟩, ?_⟩
      rw [ht]
      refine callFD c rfl ?_
      simp only [wkA, Nat.reduceEqDiff, Nat.reduceAdd, Nat.reduceSub, Nat.reduceLeDiff, Nat.reduceLT, Nat.reduceBEq, Nat.reduceBNe, reduceCtorEq, ef]
      rfl
    | ok b =>
      have hb := halfS_ok hh
      rw [hh] at c
      have hR : secS { p with npre := (2, 0) :: a.pre, nsuf := a.suf } all (some k) = finS { p with hasNeg := true, npre := b.pre, nsuf := b.suf } := by
        unfold secS
        simp only
        rw [hh]
      rw [hR]
      have f := seg31_12 { p with hasNeg := true, npre := b.pre, nsuf := b.suf } (by
        intro l hl
        simp only [four, List.mem_cons, List.not_mem_nil, or_false] at hl
        rcases hl with rfl | rfl | rfl | rfl <;> (try simp) <;> omega)
      simp only [obC, Pat.av, Pat.zero, items, itemA, wkA, Nat.reduceEqDiff, Nat.reduceAdd, Nat.reduceSub, Nat.reduceLeDiff, Nat.reduceLT, Nat.reduceBEq, Nat.reduceBNe, reduceCtorEq] at f
      simp only [resH, Hlf.av, Pat.av, Pat.zero, items, Flt.av, wkA, Nat.reduceEqDiff, Nat.reduceAdd, Nat.reduceSub, Nat.reduceLeDiff, Nat.reduceLT, Nat.reduceBEq, Nat.reduceBNe, reduceCtorEq] at c
      simp only [ic31_13, obC, Hlf.av, Pat.av, Pat.zero, items, itemA, wkA, Nat.reduceEqDiff, Nat.reduceAdd, Nat.reduceSub, Nat.reduceLeDiff, Nat.reduceLT, Nat.reduceBEq, Nat.reduceBNe, reduceCtorEq, e1, List.length_map]
      refine ⟨by omega, ?_⟩
      simp only [wkA, Nat.reduceEqDiff, Nat.reduceAdd, Nat.reduceSub, Nat.reduceLeDiff, Nat.reduceLT, Nat.reduceBEq, Nat.reduceBNe, reduceCtorEq, w1, Int.toNat_natCast, hg, hd, w2, List.length_map]
      refine ⟨⟨by omega, by omega⟩, ⟨by omega, by omega⟩, ?_⟩
      rw [ht]
      refine callFD c rfl ?_
      have e00 : ((0 : Int) != 0) = false := rfl
      simp only [wkA, Nat.reduceEqDiff, Nat.reduceAdd, Nat.reduceSub, Nat.reduceLeDiff, Nat.reduceLT, Nat.reduceBEq, Nat.reduceBNe, reduceCtorEq, e00]
      simp only [ic31_10, wkA, Nat.reduceEqDiff, Nat.reduceAdd, Nat.reduceSub, Nat.reduceLeDiff, Nat.reduceLT, Nat.reduceBEq, Nat.reduceBNe, reduceCtorEq]
      exact f _ _

theorem bytesS_le (n : Nat) : (bytesS n).length ≤ 4 := by
  unfold bytesS
  split
  · simp
  · split
    · simp
    · split <;> simp
theorem textS_le (l : List El) : (textS l).length ≤ 4 * l.length := by
  unfold textS toksS
  induction l with
  | nil => simp
  | cons e l ih =>
    rw [List.filter_cons]
    split
    · simp only [List.map_cons, List.flatMap_cons, List.length_append, List.length_cons]
      have := bytesS_le e.t.r.toNat
      omega
    · simp only [List.length_cons]; omega
theorem halfS_long {l : List El} {b : Int} {first : Bool} {a : Hlf} (h : halfS l b first = .ok a) : a.long ≤ 4 * l.length := by
  unfold halfS at h
  simp only at h
  split at h
  · cases h
  · split at h
    · cases h
    · split at h
      · cases h
      · split at h
        · cases h
        · split at h
          · cases h
          · injection h with h
            subst h
            simp only
            refine Nat.le_trans (textS_le _) ?_
            simp only [List.length_drop, List.length_take]
            omega
theorem longN_w {p q : Pat} (h : longN p = .ok q) : q.width = p.width := by rw [(longN_ok h).1]
theorem mixN_w {p q : Pat} {sizes : List Nat} {plain : List UInt8} (h : mixN p sizes plain = .ok q) : q.width = p.width := by rw [(mixN_ok h).1]
theorem choN_w {p q : Pat} {sizes : List Nat} {plain fraction all : List UInt8} {point : Bool} (h : choN p sizes plain fraction all point = .ok q) : q.width = p.width := by
  unfold choN at h
  split at h
  · split at h
    · cases h
    · split at h
      · cases h
      · have := mixN_w h; exact this
  · split at h
    · cases h
    · unfold aftN at h
      split at h
      · cases h
      · have := mixN_w h; exact this
theorem allN_w {p q : Pat} {sizes : List Nat} {plain fraction : List UInt8} {point : Bool} (h : allN p sizes plain fraction point = .ok q) : q.width = p.width := by
  unfold allN at h
  split at h
  · cases h
  · have := choN_w h; exact this
theorem bodN_w {p q : Pat} {body : List UInt8} (h : bodN p body = .ok q) : q.width = p.width := by
  unfold bodN at h
  split at h
  · cases h
  · unfold fraN at h
    split at h
    · cases h
    · split at h
      · cases h
      · unfold sizN at h
        split at h
        · cases h
        · have := allN_w h; exact this
theorem numberS_w {s : List UInt8} {q : Pat} (h : numberS s = .ok q) : q.width = 0 := by
  unfold numberS numN at h
  split at h
  · split at h
    · unfold ex3N at h
      split at h
      · cases h
      · split at h
        · cases h
        · rw [bodN_w h]; rfl
    · unfold ex3N at h
      split at h
      · cases h
      · split at h
        · cases h
        · rw [bodN_w h]; rfl
  · rw [bodN_w h]; rfl
theorem halfS_w {l : List El} {b : Int} {first : Bool} {a : Hlf} (h : halfS l b first = .ok a) : a.p.width = 0 := by
  unfold halfS at h
  simp only at h
  split at h
  · cases h
  · split at h
    · cases h
    · split at h
      · cases h
      · split at h
        · cases h
        · rename_i p hp
          split at h
          · cases h
          · injection h with h
            subst h
            exact numberS_w hp
/-- A pattern of its first half. -/
def prO (a : Hlf) : Pat := { a.p with pre := a.pre, suf := a.suf, padAt := a.at_, pad := a.pad, width := if 0 < a.at_ then a.pre.length + a.suf.length + a.long else 0 }
def prP (a : Hlf) : Pat := { prO a with npre := (2, 0) :: a.pre, nsuf := a.suf }
theorem seg31_14 (a : Hlf) (all : List El) (o : Option Nat) (ex : List (Nat × AV)) (oex : List (Nat × Ob))
    (hl : all.length < 90000) (hr : ∀ e ∈ all, (0 ≤ e.t.r ∧ e.t.r < 2097152) ∧ e.t.at_ < 1099511627776) (ho : ∀ k, o = some k → k < all.length) (hpre : a.pre.length ≤ 40) (hsuf : a.suf.length ≤ 40) (hlong : a.long < 1000000) (hw : a.p.width = 0) :
    VC e0 ic31_14 (qC (secS (prP a) all o)) ⟨(2, .box 2 0) :: (3, .box 3 0) :: (5, .box 5 0) :: (6, .sl 4 (all.map El.av)) :: (9, i64 (semiI o)) :: (12, .box 12 0) :: ex,
      obC ++ (5, .box 52 [i64 0, i64 0]) :: (12, .box 76 (avCells a.av)) :: []⟩ := by
  have f0 := seg31_13 (prO a) a all o
  have hp : ({ prO a with npre := (2, 0) :: a.pre, nsuf := a.suf } : Pat) = prP a := rfl
  rw [hp] at f0
  have f1 := fun ex => f0 ex hl hr ho hpre hsuf ⟨hpre, hsuf⟩
  clear f0 hp
  generalize secS (prP a) all o = R at *
  generalize semiI o = so at *
  by_cases h0 : 0 < a.at_
  · have e1 : decide ((a.at_ : Int) > 0) = true := decide_eq_true (by omega)
    have w1 : IntKind.i64.wrap ((a.pre.length : Int) + a.suf.length) = ((a.pre.length + a.suf.length : Nat) : Int) := by rw [wrap64] <;> omega
    have w2 : IntKind.i64.wrap (((a.pre.length + a.suf.length : Nat) : Int) + a.long) = ((a.pre.length + a.suf.length + a.long : Nat) : Int) := by rw [wrap64] <;> omega
    simp only [prO, if_pos h0] at f1
    clear hr ho
    simp only [obC, Hlf.av, Pat.av, Pat.zero, items, itemA, wkA, Nat.reduceEqDiff, Nat.reduceAdd, Nat.reduceSub, Nat.reduceLeDiff, Nat.reduceLT, Nat.reduceBEq, Nat.reduceBNe, reduceCtorEq, List.length_map] at f1
    simp only [ic31_14, obC, Hlf.av, Pat.av, Pat.zero, items, itemA, wkA, Nat.reduceEqDiff, Nat.reduceAdd, Nat.reduceSub, Nat.reduceLeDiff, Nat.reduceLT, Nat.reduceBEq, Nat.reduceBNe, reduceCtorEq, List.length_map, e1, w1, w2]
    exact f1 _
  · have e1 : decide ((a.at_ : Int) > 0) = false := decide_eq_false (by omega)
    simp only [prO, if_neg h0] at f1
    clear hr ho
    simp only [obC, Hlf.av, Pat.av, Pat.zero, items, itemA, wkA, Nat.reduceEqDiff, Nat.reduceAdd, Nat.reduceSub, Nat.reduceLeDiff, Nat.reduceLT, Nat.reduceBEq, Nat.reduceBNe, reduceCtorEq, List.length_map, hw] at f1
    simp only [ic31_14, obC, Hlf.av, Pat.av, Pat.zero, items, itemA, wkA, Nat.reduceEqDiff, Nat.reduceAdd, Nat.reduceSub, Nat.reduceLeDiff, Nat.reduceLT, Nat.reduceBEq, Nat.reduceBNe, reduceCtorEq, List.length_map, e1, hw]
    exact f1 _
/-- The first half, and what follows it. -/
def fstS (ahead all : List El) (o : Option Nat) : Except Flt Pat := match halfS ahead 0 true with
  | .error f => .error f
  | .ok a => secS (prP a) all o
theorem seg31_15 (ahead all : List El) (o : Option Nat) (c e2 : Int) (ex : List (Nat × AV))
    (hl : all.length < 90000) (hr : ∀ e ∈ all, (0 ≤ e.t.r ∧ e.t.r < 2097152) ∧ e.t.at_ < 1099511627776) (ho : ∀ k, o = some k → k < all.length) (ha : ahead.length ≤ all.length) (hra : ∀ e ∈ ahead, e ∈ all) :
    VC e0 ic31_15 (qC (fstS ahead all o)) ⟨(2, .box 2 0) :: (3, .box 3 0) :: (5, .box 5 0) :: (6, .sl 4 (all.map El.av)) :: (9, i64 (semiI o)) :: (11, .sl 4 (ahead.map El.av)) :: ex,
      obC ++ (5, .box 52 [i64 c, i64 e2]) :: []⟩ := by
  have c57 := con57 ahead 0 true (by omega) (fun e he => (hr e (hra e he)).1)
  cases hh : halfS ahead 0 true with
  | error f =>
    rw [hh] at c57
    have hR : fstS ahead all o = .error f := by unfold fstS; rw [hh]
    rw [hR]
    have ef : (f.e != 0) = true := by rw [neI, decide_eq_true_eq]; exact halfS_err hh
    generalize semiI o = so at *
    simp only [resH, Hlf.av, Hlf.zero, Pat.av, Pat.zero, items, Flt.av, wkA, Nat.reduceEqDiff, Nat.reduceAdd, Nat.reduceSub, Nat.reduceLeDiff, Nat.reduceLT, Nat.reduceBEq, Nat.reduceBNe, reduceCtorEq] at c57
    simp only [ic31_15, obC, Pat.av, Pat.zero, items, wkA, Nat.reduceEqDiff, Nat.reduceAdd, Nat.reduceSub, Nat.reduceLeDiff, Nat.reduceLT, Nat.reduceBEq, Nat.reduceBNe, reduceCtorEq]
    refine callF c57 rfl ?_
    simp only [wkA, Nat.reduceEqDiff, Nat.reduceAdd, Nat.reduceSub, Nat.reduceLeDiff, Nat.reduceLT, Nat.reduceBEq, Nat.reduceBNe, reduceCtorEq, ef]
    rfl
  | ok a =>
    obtain ⟨h1, h2, h3⟩ := halfS_ok hh
    have hlg := halfS_long hh
    have f := fun ex => seg31_14 a all o ex [] hl hr ho h2 h3 (by omega) (halfS_w hh)
    rw [hh] at c57
    have hR : fstS ahead all o = secS (prP a) all o := by unfold fstS; rw [hh]
    rw [hR]
    generalize secS (prP a) all o = R at *
    generalize semiI o = so at *
    have e00 : ((0 : Int) != 0) = false := rfl
    simp only [obC, Hlf.av, Pat.av, Pat.zero, items, wkA, Nat.reduceEqDiff, Nat.reduceAdd, Nat.reduceSub, Nat.reduceLeDiff, Nat.reduceLT, Nat.reduceBEq, Nat.reduceBNe, reduceCtorEq] at f
    simp only [resH, Hlf.av, Pat.av, Pat.zero, items, Flt.av, wkA, Nat.reduceEqDiff, Nat.reduceAdd, Nat.reduceSub, Nat.reduceLeDiff, Nat.reduceLT, Nat.reduceBEq, Nat.reduceBNe, reduceCtorEq] at c57
    simp only [ic31_15, obC, Pat.av, Pat.zero, items, wkA, Nat.reduceEqDiff, Nat.reduceAdd, Nat.reduceSub, Nat.reduceLeDiff, Nat.reduceLT, Nat.reduceBEq, Nat.reduceBNe, reduceCtorEq]
    refine callF c57 rfl ?_
    simp only [wkA, Nat.reduceEqDiff, Nat.reduceAdd, Nat.reduceSub, Nat.reduceLeDiff, Nat.reduceLT, Nat.reduceBEq, Nat.reduceBNe, reduceCtorEq, e00]
    exact f _
/-- What stands ahead of the semicolon. -/
def ahdS (all : List El) (o : Option Nat) : List El := match o with
  | some k => all.take k
  | none => all
theorem seg31_16 (all : List El) (o : Option Nat) (c e2 : Int) (ex : List (Nat × AV))
    (hl : all.length < 90000) (hr : ∀ e ∈ all, (0 ≤ e.t.r ∧ e.t.r < 2097152) ∧ e.t.at_ < 1099511627776) (ho : ∀ k, o = some k → k < all.length) :
    VC e0 ic31_16 (qC (fstS (ahdS all o) all o)) ⟨(2, .box 2 0) :: (3, .box 3 0) :: (5, .box 5 0) :: (6, .sl 4 (all.map El.av)) :: (9, i64 (semiI o)) :: ex,
      obC ++ (5, .box 52 [i64 c, i64 e2]) :: []⟩ := by
  cases o with
  | none =>
    have f := fun ex => seg31_15 all all none c e2 ex hl hr ho (Nat.le_refl _) (fun e h => h)
    have e1 : decide ((-1 : Int) ≥ 0) = false := rfl
    unfold semiI ahdS at *
    simp only [obC, Pat.av, Pat.zero, items, wkA, Nat.reduceEqDiff, Nat.reduceAdd, Nat.reduceSub, Nat.reduceLeDiff, Nat.reduceLT, Nat.reduceBEq, Nat.reduceBNe, reduceCtorEq] at f
    simp only [ic31_16, obC, Pat.av, Pat.zero, items, wkA, Nat.reduceEqDiff, Nat.reduceAdd, Nat.reduceSub, Nat.reduceLeDiff, Nat.reduceLT, Nat.reduceBEq, Nat.reduceBNe, reduceCtorEq, e1]
    exact f _
  | some k =>
    have hk := ho k rfl
    have f := fun ex => seg31_15 (all.take k) all (some k) c e2 ex hl hr ho (by simp; omega) (fun e h => List.mem_of_mem_take h)
    have e1 : decide (((k : Nat) : Int) ≥ 0) = true := decide_eq_true (by omega)
    have ht : (all.map El.av).take k = (all.take k).map El.av := by rw [List.map_take]
    unfold semiI ahdS at *
    simp only [obC, Pat.av, Pat.zero, items, wkA, Nat.reduceEqDiff, Nat.reduceAdd, Nat.reduceSub, Nat.reduceLeDiff, Nat.reduceLT, Nat.reduceBEq, Nat.reduceBNe, reduceCtorEq] at f
    simp only [ic31_16, obC, Pat.av, Pat.zero, items, wkA, Nat.reduceEqDiff, Nat.reduceAdd, Nat.reduceSub, Nat.reduceLeDiff, Nat.reduceLT, Nat.reduceBEq, Nat.reduceBNe, reduceCtorEq, e1, List.length_map, Int.toNat_natCast, Int.toNat_zero, Nat.sub_zero]
    refine ⟨⟨by omega, by omega, by omega⟩, ?_⟩
    rw [ht]
    exact f _

def smiS (all : List El) (r : Except Flt (Option Nat)) : Except Flt Pat := match r with
  | .error f => .error f
  | .ok o => fstS (ahdS all o) all o
theorem semiS_cons (e : El) (l : List El) (i : Nat) (o : Option Nat) : semiS (e :: l) i o = if e.plain 59 = true then (match o with | some _ => .error ⟨4, e.t.at_⟩ | none => semiS l (i + 1) (some i)) else semiS l (i + 1) o := by
  cases o <;> rfl
def I17c (all : List El) (c e2 : Int) (m : Nat) (st : St) : Prop := ∃ (i : Nat) (o : Option Nat), m = all.length - i ∧ i ≤ all.length ∧ (∀ k, o = some k → k < i) ∧
  st = ⟨[(2, .box 2 0), (3, .box 3 0), (5, .box 5 0), (6, .sl 4 (all.map El.av)), (9, i64 (semiI o)), (10, i64 i)], obC ++ [(5, .box 52 [i64 c, i64 e2])]⟩ ∧
  semiS all 0 none = semiS (all.drop i) i o
theorem seg31_17 (all : List El) (c e2 : Int) (hl : all.length < 90000) (hr : ∀ e ∈ all, (0 ≤ e.t.r ∧ e.t.r < 2097152) ∧ e.t.at_ < 1099511627776) (x4 : AV) (ex : List (Nat × AV)) :
    VC e0 ic31_17 (qC (smiS all (semiS all 0 none))) ⟨(2, .box 2 0) :: (3, .box 3 0) :: (4, x4) :: (5, .box 5 0) :: (6, .own 63) :: ex, obC ++ [(5, .box 52 [i64 c, i64 e2]), (63, .row 73 4 (all.map El.av))]⟩ := by
  generalize hR : smiS all (semiS all 0 none) = R
  simp only [ic31_17, obC, Pat.av, Pat.zero, items, wkA, Nat.reduceEqDiff, Nat.reduceAdd, Nat.reduceSub, Nat.reduceLeDiff, Nat.reduceLT, Nat.reduceBEq, Nat.reduceBNe, reduceCtorEq]
  refine ⟨I17c all c e2, all.length, _, Gh.frz _ 63, ⟨0, none, by omega, by omega, fun k h => by (cases h), ?_, rfl⟩, ?_⟩
  · simp only [obC, Pat.av, Pat.zero, items, wkA, Nat.reduceEqDiff, Nat.reduceAdd, Nat.reduceSub, Nat.reduceLeDiff, Nat.reduceLT, Nat.reduceBEq, Nat.reduceBNe, reduceCtorEq, semiI]; rfl
  rintro m st ⟨i, o, rfl, hi, ho, rfl, hs⟩
  by_cases hlt : i < all.length
  · have h0 : decide ((i : Int) < (all.length : Int)) = true := decide_eq_true (by omega)
    have w1 : IntKind.i64.wrap ((i : Int) + 1) = ((i + 1 : Nat) : Int) := by rw [wrap64] <;> omega
    have hg := getEl hlt
    have c56 := con56 (all.getD i elZ) 59
    have hd := drop_getE hlt
    rw [hd, semiS_cons] at hs
    simp only [El.av] at hg c56
    generalize all.getD i elZ = e at *
    cases hp : e.plain 59 with
    | false =>
      rw [hp] at c56
      rw [hp, if_neg (by simp)] at hs
      generalize hso : semiI o = so at *
      simp only [ic31_9, obC, Pat.av, Pat.zero, items, wkA, Nat.reduceEqDiff, Nat.reduceAdd, Nat.reduceSub, Nat.reduceLeDiff, Nat.reduceLT, Nat.reduceBEq, Nat.reduceBNe, reduceCtorEq, List.length_map, h0]
      simp only [ic31_8, wkA, Nat.reduceEqDiff, Nat.reduceAdd, Nat.reduceSub, Nat.reduceLeDiff, Nat.reduceLT, Nat.reduceBEq, Nat.reduceBNe, reduceCtorEq, List.length_map, Int.toNat_natCast, hg]
      refine ⟨⟨by omega, by omega⟩, ?_⟩
      refine callF c56 rfl ?_
      simp only [wkA, Nat.reduceEqDiff, Nat.reduceAdd, Nat.reduceSub, Nat.reduceLeDiff, Nat.reduceLT, Nat.reduceBEq, Nat.reduceBNe, reduceCtorEq]
      simp only [ic31_7, wkA, Nat.reduceEqDiff, Nat.reduceAdd, Nat.reduceSub, Nat.reduceLeDiff, Nat.reduceLT, Nat.reduceBEq, Nat.reduceBNe, reduceCtorEq, w1]
      refine ⟨_, all.length - (i + 1), Gh.refl _, by omega, i + 1, o, rfl, by omega, fun k h => by have := ho k h; omega, ?_, hs⟩
      rw [hso]; rfl
    | true =>
      rw [hp] at c56
      rw [hp, if_pos rfl] at hs
      cases o with
      | some k =>
        simp only at hs
        have e1 : decide (((k : Nat) : Int) ≥ 0) = true := decide_eq_true (by omega)
        unfold semiI
        rw [hs] at hR
        unfold smiS at hR
        subst hR
        simp only [ic31_9, obC, Pat.av, Pat.zero, items, wkA, Nat.reduceEqDiff, Nat.reduceAdd, Nat.reduceSub, Nat.reduceLeDiff, Nat.reduceLT, Nat.reduceBEq, Nat.reduceBNe, reduceCtorEq, List.length_map, h0]
        simp only [ic31_8, wkA, Nat.reduceEqDiff, Nat.reduceAdd, Nat.reduceSub, Nat.reduceLeDiff, Nat.reduceLT, Nat.reduceBEq, Nat.reduceBNe, reduceCtorEq, List.length_map, Int.toNat_natCast, hg]
        refine ⟨⟨by omega, by omega⟩, ?_⟩
        refine callF c56 rfl ?_
        simp only [wkA, Nat.reduceEqDiff, Nat.reduceAdd, Nat.reduceSub, Nat.reduceLeDiff, Nat.reduceLT, Nat.reduceBEq, Nat.reduceBNe, reduceCtorEq, e1, Int.toNat_natCast, hg, List.length_map, okR, refOk, AV.plain]
        refine ⟨⟨by omega, by omega⟩, ?_⟩
        rfl
      | none =>
        simp only at hs
        have e1 : decide ((-1 : Int) ≥ 0) = false := rfl
        unfold semiI
        simp only [ic31_9, obC, Pat.av, Pat.zero, items, wkA, Nat.reduceEqDiff, Nat.reduceAdd, Nat.reduceSub, Nat.reduceLeDiff, Nat.reduceLT, Nat.reduceBEq, Nat.reduceBNe, reduceCtorEq, List.length_map, h0]
        simp only [ic31_8, wkA, Nat.reduceEqDiff, Nat.reduceAdd, Nat.reduceSub, Nat.reduceLeDiff, Nat.reduceLT, Nat.reduceBEq, Nat.reduceBNe, reduceCtorEq, List.length_map, Int.toNat_natCast, hg]
        refine ⟨⟨by omega, by omega⟩, ?_⟩
        refine callF c56 rfl ?_
        simp only [wkA, Nat.reduceEqDiff, Nat.reduceAdd, Nat.reduceSub, Nat.reduceLeDiff, Nat.reduceLT, Nat.reduceBEq, Nat.reduceBNe, reduceCtorEq, e1]
        simp only [ic31_6, wkA, Nat.reduceEqDiff, Nat.reduceAdd, Nat.reduceSub, Nat.reduceLeDiff, Nat.reduceLT, Nat.reduceBEq, Nat.reduceBNe, reduceCtorEq]
        simp only [ic31_7, wkA, Nat.reduceEqDiff, Nat.reduceAdd, Nat.reduceSub, Nat.reduceLeDiff, Nat.reduceLT, Nat.reduceBEq, Nat.reduceBNe, reduceCtorEq, w1]
        exact ⟨_, all.length - (i + 1), Gh.refl _, by omega, i + 1, some i, rfl, by omega, fun k h => by injection h with h; omega, rfl, hs⟩
  · have h0 : decide ((i : Int) < (all.length : Int)) = false := decide_eq_false (by omega)
    have hd : all.drop i = [] := List.drop_of_length_le (by omega)
    rw [hd, semiS] at hs
    have f := fun ex => seg31_16 all o c e2 ex hl hr (fun k h => by have := ho k h; omega)
    have hR2 : fstS (ahdS all o) all o = R := by rw [← hR, hs]; rfl
    rw [hR2] at f
    generalize semiI o = so at *
    simp only [obC, Pat.av, Pat.zero, items, wkA, Nat.reduceEqDiff, Nat.reduceAdd, Nat.reduceSub, Nat.reduceLeDiff, Nat.reduceLT, Nat.reduceBEq, Nat.reduceBNe, reduceCtorEq] at f
    simp only [ic31_9, obC, Pat.av, Pat.zero, items, wkA, Nat.reduceEqDiff, Nat.reduceAdd, Nat.reduceSub, Nat.reduceLeDiff, Nat.reduceLT, Nat.reduceBEq, Nat.reduceBNe, reduceCtorEq, List.length_map, h0]
    exact f _

def elmS (r : Except Flt (List El)) : Except Flt Pat := match r with
  | .error f => .error f
  | .ok all => smiS all (semiS all 0 none)
def appE (es : List El) (r : Except Flt (List El)) : Except Flt (List El) := match r with
  | .error f => .error f
  | .ok l => .ok (es ++ l)
theorem appE_nil (r : Except Flt (List El)) : appE [] r = r := by cases r <;> rfl
theorem appE_app (es : List El) (e : El) (r : Except Flt (List El)) : appE (es ++ [e]) r = appE es (match r with | .error f => .error f | .ok l => .ok (e :: l)) := by cases r <;> simp [appE]
theorem elemsS_tok {t : Tok} {l : List Tok} (h : ¬ (t.q = false ∧ t.r = 42)) : elemsS (t :: l) = match elemsS l with | .error f => .error f | .ok es => .ok (⟨t, false⟩ :: es) := by
  rw [elemsS.eq_def]; simp only; rw [if_neg h]; cases elemsS l <;> rfl
theorem elemsS_end {t : Tok} (h : t.q = false ∧ t.r = 42) : elemsS [t] = .error ⟨7, t.at_⟩ := by
  rw [elemsS.eq_def]; simp only; rw [if_pos h]
theorem elemsS_pad {t t2 : Tok} {l : List Tok} (h : t.q = false ∧ t.r = 42) : elemsS (t :: t2 :: l) = match elemsS l with | .error f => .error f | .ok es => .ok (⟨⟨t2.r, t.q, t.at_⟩, true⟩ :: es) := by
  rw [elemsS.eq_def]; simp only; rw [if_pos h]; cases elemsS l <;> rfl
def tokZ : Tok := ⟨0, false, 0⟩
theorem getTk {l : List Tok} {i : Nat} (h : i < l.length) : (l.map Tok.av).getD i .top = (l.getD i tokZ).av := by
  simp [List.getD_eq_getElem?_getD, h]
theorem drop_getT {l : List Tok} {i : Nat} (h : i < l.length) : l.drop i = l.getD i tokZ :: l.drop (i + 1) := by
  rw [List.drop_eq_getElem_cons h, List.getD_eq_getElem?_getD, List.getElem?_eq_getElem h]; rfl
def elIn (e : El) : Prop := (0 ≤ e.t.r ∧ e.t.r < 2097152) ∧ e.t.at_ < 1099511627776
def I18c (toks : List Tok) (c e2 : Int) (m : Nat) (st : St) : Prop := ∃ (i : Nat) (es : List El), m = toks.length - i ∧ i ≤ toks.length ∧ es.length ≤ i ∧ (∀ e ∈ es, elIn e) ∧
  st = ⟨[(2, .box 2 0), (3, .box 3 0), (4, .sl 3 (toks.map Tok.av)), (5, .box 5 0), (6, .own 63), (7, i64 i)], obC ++ [(5, .box 52 [i64 c, i64 e2]), (63, .row 73 4 (es.map El.av))]⟩ ∧
  elemsS toks = appE es (elemsS (toks.drop i))
theorem mem_snoc {es : List El} {e : El} (h : ∀ x ∈ es, elIn x) (he : elIn e) : ∀ x ∈ es ++ [e], elIn x := by
  intro x hx
  rcases List.mem_append.1 hx with hx | hx
  · exact h x hx
  · rw [List.mem_singleton.1 hx]; exact he
theorem seg31_18 (toks : List Tok) (c e2 : Int) (hl : toks.length ≤ 400) (hr : ∀ t ∈ toks, (0 ≤ t.r ∧ t.r < 2097152) ∧ t.at_ < 1099511627776) (ex : List (Nat × AV)) :
    VC e0 ic31_18 (qC (elmS (elemsS toks))) ⟨(2, .box 2 0) :: (3, .box 3 0) :: (4, .sl 3 (toks.map Tok.av)) :: (5, .box 5 0) :: ex, obC ++ [(5, .box 52 [i64 c, i64 e2])]⟩ := by
  generalize hR : elmS (elemsS toks) = R
  simp only [ic31_18, obC, Pat.av, Pat.zero, items, wkA, Nat.reduceEqDiff, Nat.reduceAdd, Nat.reduceSub, Nat.reduceLeDiff, Nat.reduceLT, Nat.reduceBEq, Nat.reduceBNe, reduceCtorEq]
  refine ⟨I18c toks c e2, toks.length, _, (Gh.own (t := 6) 73 4 63 rfl (by decide)).trans (Gh.keep _ [2, 3, 4, 5, 6, 7] [2, 3, 5, 63]), ⟨0, [], by omega, by omega, by simp, by simp, rfl, ?_⟩, ?_⟩
  · rw [appE_nil]; rfl
  rintro m st ⟨i, es, rfl, hi, hel, hes, rfl, hs⟩
  by_cases hlt : i < toks.length
  · have h0 : decide ((i : Int) < (toks.length : Int)) = true := decide_eq_true (by omega)
    have w1 : IntKind.i64.wrap ((i : Int) + 1) = ((i + 1 : Nat) : Int) := by rw [wrap64] <;> omega
    have w2 : IntKind.i64.wrap (((i + 1 : Nat) : Int) + 1) = ((i + 2 : Nat) : Int) := by rw [wrap64] <;> omega
    have hg := getTk hlt
    have hm : toks.getD i tokZ ∈ toks := by rw [List.getD_eq_getElem?_getD, List.getElem?_eq_getElem hlt]; exact List.getElem_mem _
    have hb := hr _ hm
    have c56 := con56 ⟨toks.getD i tokZ, false⟩ 42
    have hd := drop_getT hlt
    have hpe : El.plain ⟨toks.getD i tokZ, false⟩ 42 = true ↔ ((toks.getD i tokZ).q = false ∧ (toks.getD i tokZ).r = 42) := by
      unfold El.plain; simp
    rw [hd] at hs
    simp only [Tok.av] at hg
    simp only [El.av] at c56
    generalize toks.getD i tokZ = t at *
    cases hp : El.plain ⟨t, false⟩ 42 with
    | false =>
      rw [hp] at c56 hpe
      rw [elemsS_tok (fun h => by have := hpe.2 h; cases this), ← appE_app] at hs
      simp only [ic31_5, obC, Pat.av, Pat.zero, items, wkA, Nat.reduceEqDiff, Nat.reduceAdd, Nat.reduceSub, Nat.reduceLeDiff, Nat.reduceLT, Nat.reduceBEq, Nat.reduceBNe, reduceCtorEq, List.length_map, h0]
      simp only [ic31_4, wkA, Nat.reduceEqDiff, Nat.reduceAdd, Nat.reduceSub, Nat.reduceLeDiff, Nat.reduceLT, Nat.reduceBEq, Nat.reduceBNe, reduceCtorEq, List.length_map, Int.toNat_natCast, hg]
      refine ⟨⟨by omega, by omega⟩, ?_⟩
      refine callF c56 rfl ?_
      simp only [wkA, Nat.reduceEqDiff, Nat.reduceAdd, Nat.reduceSub, Nat.reduceLeDiff, Nat.reduceLT, Nat.reduceBEq, Nat.reduceBNe, reduceCtorEq]
      simp only [ic31_2, wkA, Nat.reduceEqDiff, Nat.reduceAdd, Nat.reduceSub, Nat.reduceLeDiff, Nat.reduceLT, Nat.reduceBEq, Nat.reduceBNe, reduceCtorEq, List.length_map]
      refine ⟨⟨by omega, by omega⟩, ?_⟩
      simp only [ic31_3, wkA, Nat.reduceEqDiff, Nat.reduceAdd, Nat.reduceSub, Nat.reduceLeDiff, Nat.reduceLT, Nat.reduceBEq, Nat.reduceBNe, reduceCtorEq, w1]
      refine ⟨_, toks.length - (i + 1), Gh.refl _, by omega, i + 1, es ++ [⟨t, false⟩], rfl, by omega, by simp; omega, mem_snoc (e := ⟨t, false⟩) hes hb, ?_, hs⟩
      simp only [obC, Pat.av, Pat.zero, items, List.map_append, List.map_cons, List.map_nil, El.av, List.cons_append, List.nil_append, avCells]
    | true =>
      rw [hp] at c56 hpe
      have ht := hpe.1 rfl
      by_cases hend : i + 1 = toks.length
      · have hd2 : toks.drop (i + 1) = [] := List.drop_of_length_le (by omega)
        have e1 : (((i + 1 : Nat) : Int) == (toks.length : Int)) = true := by rw [beq_iff_eq]; omega
        rw [hd2, elemsS_end ht] at hs
        have hR2 : R = .error ⟨7, t.at_⟩ := by rw [← hR, hs]; rfl
        subst hR2
        simp only [ic31_5, obC, Pat.av, Pat.zero, items, wkA, Nat.reduceEqDiff, Nat.reduceAdd, Nat.reduceSub, Nat.reduceLeDiff, Nat.reduceLT, Nat.reduceBEq, Nat.reduceBNe, reduceCtorEq, List.length_map, h0]
        simp only [ic31_4, wkA, Nat.reduceEqDiff, Nat.reduceAdd, Nat.reduceSub, Nat.reduceLeDiff, Nat.reduceLT, Nat.reduceBEq, Nat.reduceBNe, reduceCtorEq, List.length_map, Int.toNat_natCast, hg]
        refine ⟨⟨by omega, by omega⟩, ?_⟩
        refine callF c56 rfl ?_
        simp only [wkA, Nat.reduceEqDiff, Nat.reduceAdd, Nat.reduceSub, Nat.reduceLeDiff, Nat.reduceLT, Nat.reduceBEq, Nat.reduceBNe, reduceCtorEq, List.length_map, w1, e1]
        rfl
      · have hlt2 : i + 1 < toks.length := by omega
        have e1 : (((i + 1 : Nat) : Int) == (toks.length : Int)) = false := beq_eq_false_iff_ne.2 (by omega)
        have hg2 := getTk hlt2
        have hm2 : toks.getD (i + 1) tokZ ∈ toks := by rw [List.getD_eq_getElem?_getD, List.getElem?_eq_getElem hlt2]; exact List.getElem_mem _
        have hb2 := hr _ hm2
        rw [drop_getT hlt2, elemsS_pad ht, ← appE_app] at hs
        simp only [Tok.av] at hg2
        generalize toks.getD (i + 1) tokZ = t2 at *
        simp only [ic31_5, obC, Pat.av, Pat.zero, items, wkA, Nat.reduceEqDiff, Nat.reduceAdd, Nat.reduceSub, Nat.reduceLeDiff, Nat.reduceLT, Nat.reduceBEq, Nat.reduceBNe, reduceCtorEq, List.length_map, h0]
        simp only [ic31_4, wkA, Nat.reduceEqDiff, Nat.reduceAdd, Nat.reduceSub, Nat.reduceLeDiff, Nat.reduceLT, Nat.reduceBEq, Nat.reduceBNe, reduceCtorEq, List.length_map, Int.toNat_natCast, hg]
        refine ⟨⟨by omega, by omega⟩, ?_⟩
        refine callF c56 rfl ?_
        simp only [wkA, Nat.reduceEqDiff, Nat.reduceAdd, Nat.reduceSub, Nat.reduceLeDiff, Nat.reduceLT, Nat.reduceBEq, Nat.reduceBNe, reduceCtorEq, List.length_map, w1, e1]
        simp only [ic31_1, wkA, Nat.reduceEqDiff, Nat.reduceAdd, Nat.reduceSub, Nat.reduceLeDiff, Nat.reduceLT, Nat.reduceBEq, Nat.reduceBNe, reduceCtorEq, List.length_map, w1, Int.toNat_natCast, hg2]
        refine ⟨⟨by omega, by omega⟩, ?_⟩
        simp only [ic31_2, wkA, Nat.reduceEqDiff, Nat.reduceAdd, Nat.reduceSub, Nat.reduceLeDiff, Nat.reduceLT, Nat.reduceBEq, Nat.reduceBNe, reduceCtorEq, List.length_map]
        refine ⟨⟨by omega, by omega⟩, ?_⟩
        simp only [ic31_3, wkA, Nat.reduceEqDiff, Nat.reduceAdd, Nat.reduceSub, Nat.reduceLeDiff, Nat.reduceLT, Nat.reduceBEq, Nat.reduceBNe, reduceCtorEq, w2]
        refine ⟨_, toks.length - (i + 2), Gh.refl _, by omega, i + 2, es ++ [⟨⟨t2.r, t.q, t.at_⟩, true⟩], rfl, by omega, by simp; omega, mem_snoc (e := ⟨⟨t2.r, t.q, t.at_⟩, true⟩) hes ⟨hb2.1, hb.2⟩, ?_, hs⟩
        simp only [obC, Pat.av, Pat.zero, items, List.map_append, List.map_cons, List.map_nil, El.av, List.cons_append, List.nil_append, avCells]
  · have h0 : decide ((i : Int) < (toks.length : Int)) = false := decide_eq_false (by omega)
    have hd : toks.drop i = [] := List.drop_of_length_le (by omega)
    have he : elemsS [] = .ok [] := rfl
    rw [hd, he] at hs
    have f := fun x4 ex => seg31_17 es c e2 (by omega) hes x4 ex
    have hR2 : smiS es (semiS es 0 none) = R := by rw [← hR, hs]; simp [appE, elmS]
    rw [hR2] at f
    simp only [obC, Pat.av, Pat.zero, items, wkA, Nat.reduceEqDiff, Nat.reduceAdd, Nat.reduceSub, Nat.reduceLeDiff, Nat.reduceLT, Nat.reduceBEq, Nat.reduceBNe, reduceCtorEq] at f
    simp only [ic31_5, obC, Pat.av, Pat.zero, items, wkA, Nat.reduceEqDiff, Nat.reduceAdd, Nat.reduceSub, Nat.reduceLeDiff, Nat.reduceLT, Nat.reduceBEq, Nat.reduceBNe, reduceCtorEq, List.length_map, h0]
    exact f _ _

/-! ### The whole -/
def tokIn (n : Nat) (t : Tok) : Prop := (0 ≤ t.r ∧ t.r < 2097152) ∧ t.at_ < n
theorem scalarS_in {r : Int} (h : scalarS r = true) : 0 ≤ r ∧ r < 2097152 := by
  unfold scalarS at h
  simp only [Bool.and_eq_true, decide_eq_true_eq] at h
  omega
theorem scanS_in : ∀ (n : Nat) (s : List UInt8) (pos : Nat) (op : Int) (N : Nat), s.length ≤ n → pos + s.length ≤ N → ∀ t ∈ (scanS s pos op).2, tokIn N t
  | n, [], pos, op, N, _, _, t, ht => by rw [scanS_nil] at ht; simp at ht
  | 0, c :: s, pos, op, N, hn, _, t, ht => by simp at hn
  | n + 1, c :: s, pos, op, N, hn, hN, t, ht => by
    have hne : (c :: s) ≠ [] := by simp
    have hlen : (c :: s).length = s.length + 1 := rfl
    by_cases h2 : (firstS (c :: s)).2 = 0
    · rw [scanS, dif_neg hne, dif_pos h2] at ht; simp at ht
    · have hb := firstS_bytes h2
      have hdl : ∀ k, 0 < k → ((c :: s).drop k).length ≤ n := fun k hk => by rw [List.length_drop]; omega
      by_cases h3 : (firstS (c :: s)).1 = 39 ∧ 2 ≤ (c :: s).length ∧ (c :: s).getD 1 0 = 39
      · rw [scanS_two hne h2 h3] at ht
        rcases List.mem_cons.1 ht with rfl | ht
        · exact ⟨⟨by simp, by simp⟩, by simp only; omega⟩
        · exact scanS_in n _ _ _ N (hdl 2 (by omega)) (by rw [List.length_drop]; have := h3.2.1; omega) t ht
      · have hk : (firstS (c :: s)).2 ≤ (c :: s).length := (firstS_le _).1
        by_cases h4 : (firstS (c :: s)).1 = 39
        · rw [scanS_quote hne h2 h3 h4] at ht
          exact scanS_in n _ _ _ N (hdl _ (by omega)) (by rw [List.length_drop]; omega) t ht
        · rw [scanS_other hne h2 h4] at ht
          rcases List.mem_cons.1 ht with rfl | ht
          · exact ⟨scalarS_in hb.2, by simp only; omega⟩
          · exact scanS_in n _ _ _ N (hdl _ (by omega)) (by rw [List.length_drop]; omega) t ht
theorem scanT_in {s : List UInt8} {l : List Tok} (h : scanT s = .ok l) : l.length ≤ 400 ∧ ∀ t ∈ l, tokIn s.length t := by
  unfold scanT at h
  split at h
  · cases h
  · simp only at h
    split at h
    · cases h
    · split at h
      · cases h
      · injection h with h
        subst h
        exact ⟨by omega, scanS_in _ s 0 (-1) _ (Nat.le_refl _) (by omega)⟩
theorem scanT_err {s : List UInt8} {f : Flt} (h : scanT s = .error f) : f.e ≠ 0 := by
  unfold scanT at h
  split at h
  · injection h with h; subst h; simp
  · simp only at h
    split at h
    · injection h with h; subst h; simp
    · split at h
      · injection h with h; subst h; simp
      · cases h
def cmpN (s : List UInt8) : Except Flt Pat := match scanT s with
  | .error f => .error f
  | .ok l => elmS (elemsS l)
theorem con31N {s : List UInt8} (hl : s.length < 1099511627776) : Fn 31 [.str s] (resC (cmpN s)) := by
  have c55 := con55 hl
  refine e31 (by simp) ?_
  change VC e0 ic31 (qC (cmpN s)) _
  unfold scanA at c55
  cases hs : scanT s with
  | error f =>
    rw [hs] at c55
    have hR : cmpN s = .error f := by unfold cmpN; rw [hs]
    rw [hR]
    have ef : (f.e != 0) = true := by rw [neI, decide_eq_true_eq]; exact scanT_err hs
    simp only [Flt.av] at c55
    simp only [ic31, wkA, Nat.reduceEqDiff, Nat.reduceAdd, Nat.reduceSub, Nat.reduceLeDiff, Nat.reduceLT, Nat.reduceBEq, Nat.reduceBNe, reduceCtorEq]
    refine callF c55 rfl ?_
    simp only [wkA, Nat.reduceEqDiff, Nat.reduceAdd, Nat.reduceSub, Nat.reduceLeDiff, Nat.reduceLT, Nat.reduceBEq, Nat.reduceBNe, reduceCtorEq, ef]
    rfl
  | ok l =>
    rw [hs] at c55
    have hR : cmpN s = elmS (elemsS l) := by unfold cmpN; rw [hs]
    rw [hR]
    have hin := scanT_in hs
    have f := seg31_18 l 0 0 hin.1 (fun t ht => ⟨(hin.2 t ht).1, by have := (hin.2 t ht).2; omega⟩)
    generalize elmS (elemsS l) = R at *
    have e00 : ((0 : Int) != 0) = false := rfl
    simp only [obC, Pat.av, Pat.zero, items, wkA, Nat.reduceEqDiff, Nat.reduceAdd, Nat.reduceSub, Nat.reduceLeDiff, Nat.reduceLT, Nat.reduceBEq, Nat.reduceBNe, reduceCtorEq] at f
    simp only [Flt.av] at c55
    simp only [ic31, wkA, Nat.reduceEqDiff, Nat.reduceAdd, Nat.reduceSub, Nat.reduceLeDiff, Nat.reduceLT, Nat.reduceBEq, Nat.reduceBNe, reduceCtorEq]
    refine callF c55 rfl ?_
    simp only [wkA, Nat.reduceEqDiff, Nat.reduceAdd, Nat.reduceSub, Nat.reduceLeDiff, Nat.reduceLT, Nat.reduceBEq, Nat.reduceBNe, reduceCtorEq, e00]
    exact f _
theorem finS_eq (p : Pat) : finS p = if p.has 4 = true ∧ p.has 5 = true then .error ⟨6, 0⟩ else .ok p := rfl
theorem semiS_lt : ∀ (l : List El) (i : Nat) (o : Option Nat) {r : Option Nat}, semiS l i o = .ok r → (∀ k, o = some k → k < i) → ∀ k, r = some k → k < i + l.length
  | [], i, o, r, h, ho, k, hk => by injection h with h; subst h; have := ho k hk; simpa using this
  | e :: l, i, o, r, h, ho, k, hk => by
    rw [semiS_cons] at h
    rw [List.length_cons]
    split at h
    · cases o with
      | some k' => cases h
      | none =>
        have := semiS_lt l (i + 1) (some i) h (fun k' h' => by injection h' with h'; omega) k hk
        omega
    · have := semiS_lt l (i + 1) o h (fun k' h' => by have := ho k' h'; omega) k hk
      omega
theorem cmpN_eq (s : List UInt8) : cmpN s = compileS s := by
  unfold cmpN compileS
  cases scanT s with
  | error f => rfl
  | ok l =>
    simp only
    unfold elmS
    cases elemsS l with
    | error f => rfl
    | ok all =>
      simp only
      unfold smiS
      cases hsm : semiS all 0 none with
      | error f => rfl
      | ok o =>
        have hlt := semiS_lt all 0 none hsm (fun k h => by cases h)
        simp only
        unfold fstS ahdS
        cases o with
        | none =>
          simp only
          cases halfS all 0 true with
          | error f => rfl
          | ok a => rfl
        | some k =>
          simp only
          cases halfS (all.take k) 0 true with
          | error f => rfl
          | ok a =>
            simp only
            unfold secS
            have hk := hlt k rfl
            have hg : ((all[k]?).map fun e => (e.t.at_ : Int)).getD 0 = ((all.getD k elZ).t.at_ : Int) := by
              rw [List.getD_eq_getElem?_getD, List.getElem?_eq_getElem (show k < all.length by omega)]; rfl
            rw [hg]
            simp only
            cases halfS (all.drop (k + 1)) ((all.getD k elZ).t.at_ + 1) false with
            | error f => rfl
            | ok b => rfl
/-- THE CONTRACT of ref13.Compile. -/
theorem con31 {s : List UInt8} (hl : s.length < 1099511627776) : Fn 31 [.str s] (resC (compileS s)) := by
  rw [← cmpN_eq]; exact con31N hl

/-- Is an error's number 0? -/
def Rs.isOk : Rs → Bool
  | .err k => k == 0
  | .ok _ _ _ => true
/-- Is a value, multiplied already, a multiple of its step? -/
def isS (p : Pat) (neg : Bool) (c : Nat) (e : Int) : Bool :=
  if p.sci = true ∨ 0 < p.minSig then decide ((text (core c)).length ≤ p.most)
  else if p.inc ≠ [] then (inS 7 neg c e (dv p.inc) (-(p.maxFrac : Int))).isOk
  else fits c e (-(p.maxFrac : Int))
theorem Rs.av_no (r : Rs) : ∃ a b d k, r.av = .tup [.agg [a, b, d], i64 k] ∧ (k == 0) = r.isOk := by
  cases r with
  | err k => exact ⟨_, _, _, k, rfl, rfl⟩
  | ok neg c e => exact ⟨_, _, _, 0, rfl, rfl⟩

theorem con16 {p : Pat} (h : p.Ok) {neg : Bool} {s : List UInt8} {e : Int} (hs : okD s e) (he : -1500 < e ∧ e < 1500) (hl : s.length < 1500) : Fn 16 [p.av, D neg s e] (.bool (isS p neg (core (dv s)) (ne (dv s) (e + p.mult)))) := by
  have hc := h.cnt
  have hm := Pat.most_le h
  have hk := Pat.mult_le p
  have hr := nd_dv hs.1
  have hz := tz_le (dv s)
  have w1 : IntKind.i64.wrap (0 - (p.maxFrac : Int)) = -(p.maxFrac : Int) := by rw [wrap64] <;> omega
  have c24 := con24 h
  have c41 := con41 h
  have c43 := con43 (neg := neg) (n := (p.mult : Int)) hs (by omega)
  have hN := okN (c := dv s) (e := e + p.mult) (by omega) (by omega)
  have hne : -1600 < ne (dv s) (e + p.mult) ∧ ne (dv s) (e + p.mult) < 3300 := by unfold ne; split <;> omega
  have hn : nd (core (dv s)) ≤ nd (dv s) := by
    by_cases h0 : dv s = 0
    · rw [h0, core_zero]; omega
    · rw [nd_core h0]; omega
  have ht := text_len (core (dv s))
  have c44 := con44 (neg := neg) hN
  rw [dv_text] at c44
  unfold N at c43
  unfold isS
  refine e16 (by simp) ?_
  have hbl : ∀ x : List UInt8, decide ((x.length : Int) ≤ (p.most : Int)) = decide (x.length ≤ p.most) := fun x => by rw [decide_eq_decide]; omega
  have sig : VC e0 ic16 (retQ [(4, none)] (.bool (decide ((text (core (core (dv s)))).length ≤ p.most)))) ⟨argT 0 [p.av, D neg s e], []⟩ ∨ ¬ (p.sci = true ∨ 0 < p.minSig) := by
    by_cases hq : p.sci = true ∨ 0 < p.minSig
    · refine .inl ?_
      rw [← hbl]
      generalize text (core (core (dv s))) = s2 at *
      generalize text (core (dv s)) = s1 at *
      generalize ne (dv s) (e + p.mult) = x1 at *
      cases h1 : p.sci with
      | true =>
        simp only [Pat.av, items, D, ic16, wkA, Nat.reduceEqDiff, Nat.reduceAdd, Nat.reduceSub, Nat.reduceLeDiff, Nat.reduceLT, Nat.reduceBEq, Nat.reduceBNe, reduceCtorEq, h1] at c24 c41 c43 c44 ⊢
        refine callFD c41 rfl ?_
        simp only [wkA, Nat.reduceEqDiff, Nat.reduceAdd, Nat.reduceSub, Nat.reduceLeDiff, Nat.reduceLT, Nat.reduceBEq, Nat.reduceBNe, reduceCtorEq]
        refine callFD c43 rfl ?_
        simp only [wkA, Nat.reduceEqDiff, Nat.reduceAdd, Nat.reduceSub, Nat.reduceLeDiff, Nat.reduceLT, Nat.reduceBEq, Nat.reduceBNe, reduceCtorEq]
        refine callF c24 rfl ?_
        simp only [wkA, Nat.reduceEqDiff, Nat.reduceAdd, Nat.reduceSub, Nat.reduceLeDiff, Nat.reduceLT, Nat.reduceBEq, Nat.reduceBNe, reduceCtorEq]
        refine callF c44 rfl ?_
        simp only [wkA, Nat.reduceEqDiff, Nat.reduceAdd, Nat.reduceSub, Nat.reduceLeDiff, Nat.reduceLT, Nat.reduceBEq, Nat.reduceBNe, reduceCtorEq]
      | false =>
        have h2 : 0 < p.minSig := hq.resolve_left (by rw [h1]; simp)
        have e1 : decide ((p.minSig : Int) > 0) = true := decide_eq_true (by omega)
        simp only [Pat.av, items, D, ic16, wkA, Nat.reduceEqDiff, Nat.reduceAdd, Nat.reduceSub, Nat.reduceLeDiff, Nat.reduceLT, Nat.reduceBEq, Nat.reduceBNe, reduceCtorEq, h1, e1] at c24 c41 c43 c44 ⊢
        refine callFD c41 rfl ?_
        simp only [wkA, Nat.reduceEqDiff, Nat.reduceAdd, Nat.reduceSub, Nat.reduceLeDiff, Nat.reduceLT, Nat.reduceBEq, Nat.reduceBNe, reduceCtorEq]
        refine callFD c43 rfl ?_
        simp only [wkA, Nat.reduceEqDiff, Nat.reduceAdd, Nat.reduceSub, Nat.reduceLeDiff, Nat.reduceLT, Nat.reduceBEq, Nat.reduceBNe, reduceCtorEq, e1]
        refine callF c24 rfl ?_
        simp only [wkA, Nat.reduceEqDiff, Nat.reduceAdd, Nat.reduceSub, Nat.reduceLeDiff, Nat.reduceLT, Nat.reduceBEq, Nat.reduceBNe, reduceCtorEq]
        refine callF c44 rfl ?_
        simp only [wkA, Nat.reduceEqDiff, Nat.reduceAdd, Nat.reduceSub, Nat.reduceLeDiff, Nat.reduceLT, Nat.reduceBEq, Nat.reduceBNe, reduceCtorEq]
    · exact .inr hq
  by_cases hq : p.sci = true ∨ 0 < p.minSig
  · rw [if_pos hq]
    rcases sig with sig | sig
    · exact sig
    · exact absurd hq sig
  · rw [if_neg hq]
    have h1 : p.sci = false := by cases h1 : p.sci with
      | false => rfl
      | true => exact absurd (.inl h1) hq
    have e1 : decide ((p.minSig : Int) > 0) = false := decide_eq_false (by have : ¬ 0 < p.minSig := fun h => hq (.inr h); omega)
    by_cases h3 : p.inc = []
    · have e2 : (p.inc != []) = false := by rw [h3]; rfl
      rw [if_neg (by simp [h3])]
      have c46 := con46 (neg := neg) (p := -(p.maxFrac : Int)) hN (by omega)
      rw [dv_text] at c46
      generalize text (core (dv s)) = s1 at *
      generalize ne (dv s) (e + p.mult) = x1 at *
      simp only [Pat.av, items, D, ic16, wkA, Nat.reduceEqDiff, Nat.reduceAdd, Nat.reduceSub, Nat.reduceLeDiff, Nat.reduceLT, Nat.reduceBEq, Nat.reduceBNe, reduceCtorEq, h1] at c41 c43 c46 ⊢
      refine callFD c41 rfl ?_
      simp only [wkA, Nat.reduceEqDiff, Nat.reduceAdd, Nat.reduceSub, Nat.reduceLeDiff, Nat.reduceLT, Nat.reduceBEq, Nat.reduceBNe, reduceCtorEq]
      refine callFD c43 rfl ?_
      simp only [wkA, Nat.reduceEqDiff, Nat.reduceAdd, Nat.reduceSub, Nat.reduceLeDiff, Nat.reduceLT, Nat.reduceBEq, Nat.reduceBNe, reduceCtorEq, e1]
      simp only [ic16_2, wkA, Nat.reduceEqDiff, Nat.reduceAdd, Nat.reduceSub, Nat.reduceLeDiff, Nat.reduceLT, Nat.reduceBEq, Nat.reduceBNe, reduceCtorEq, e2]
      simp only [ic16_1, wkA, Nat.reduceEqDiff, Nat.reduceAdd, Nat.reduceSub, Nat.reduceLeDiff, Nat.reduceLT, Nat.reduceBEq, Nat.reduceBNe, reduceCtorEq, w1]
      refine callF c46 rfl ?_
      simp only [wkA, Nat.reduceEqDiff, Nat.reduceAdd, Nat.reduceSub, Nat.reduceLeDiff, Nat.reduceLT, Nat.reduceBEq, Nat.reduceBNe, reduceCtorEq]
    · have e2 : (p.inc != []) = true := by rw [bne_iff_ne]; exact h3
      rw [if_pos h3]
      have c45 := con45 (m := 7) (neg := neg) (st := p.inc) (p := -(p.maxFrac : Int)) hN h.inc.1 h.inc.2.1 (h.inc.2.2 h3) (by omega) (by omega) (by omega)
      rw [inR_av, dv_text] at c45
      obtain ⟨a, b, d, k, hab, hk0⟩ := Rs.av_no (inS 7 neg (core (dv s)) (ne (dv s) (e + p.mult)) (dv p.inc) (-(p.maxFrac : Int)))
      rw [hab] at c45
      rw [← hk0]
      generalize text (core (dv s)) = s1 at *
      generalize ne (dv s) (e + p.mult) = x1 at *
      simp only [Pat.av, items, D, ic16, wkA, Nat.reduceEqDiff, Nat.reduceAdd, Nat.reduceSub, Nat.reduceLeDiff, Nat.reduceLT, Nat.reduceBEq, Nat.reduceBNe, reduceCtorEq, h1] at c41 c43 c45 ⊢
      refine callFD c41 rfl ?_
      simp only [wkA, Nat.reduceEqDiff, Nat.reduceAdd, Nat.reduceSub, Nat.reduceLeDiff, Nat.reduceLT, Nat.reduceBEq, Nat.reduceBNe, reduceCtorEq]
      refine callFD c43 rfl ?_
      simp only [wkA, Nat.reduceEqDiff, Nat.reduceAdd, Nat.reduceSub, Nat.reduceLeDiff, Nat.reduceLT, Nat.reduceBEq, Nat.reduceBNe, reduceCtorEq, e1]
      simp only [ic16_2, wkA, Nat.reduceEqDiff, Nat.reduceAdd, Nat.reduceSub, Nat.reduceLeDiff, Nat.reduceLT, Nat.reduceBEq, Nat.reduceBNe, reduceCtorEq, e2, w1]
      refine callF c45 rfl ?_
      simp only [wkA, Nat.reduceEqDiff, Nat.reduceAdd, Nat.reduceSub, Nat.reduceLeDiff, Nat.reduceLT, Nat.reduceBEq, Nat.reduceBNe, reduceCtorEq]

/-- The step of a pattern of decimal places, without increments. -/
theorem con36 {p : Pat} (h : p.Ok) {neg : Bool} {s : List UInt8} {e : Int} (h1 : p.sci = false) (h2 : p.minSig = 0) (h3 : p.inc = []) : Fn 36 [p.av, D neg s e] (N false 1 (-(p.maxFrac : Int) + -(p.mult : Int))) := by
  have hc := h.cnt
  have hk := Pat.mult_le p
  have w1 : IntKind.i64.wrap (0 - (p.maxFrac : Int)) = -(p.maxFrac : Int) := by rw [wrap64] <;> omega
  have w2 : IntKind.i64.wrap (0 - (p.mult : Int)) = -(p.mult : Int) := by rw [wrap64] <;> omega
  have c41 := con41 h
  have hok : okD [49] (-(p.maxFrac : Int)) := ⟨rfl, by simp, by simp, by omega, by omega⟩
  have c43 := con43 (neg := false) (n := -(p.mult : Int)) hok (by omega)
  have hd : dv [49] = 1 := rfl
  rw [hd] at c43
  have e1 : decide ((p.minSig : Int) > 0) = false := decide_eq_false (by omega)
  have e2 : (p.inc != []) = false := by rw [h3]; rfl
  unfold N at c43 ⊢
  refine e36 (by simp) ?_
  generalize text (core 1) = s1 at *
  generalize ne 1 (-(p.maxFrac : Int) + -(p.mult : Int)) = x1 at *
  simp only [Pat.av, items, D, ic36, wkA, Nat.reduceEqDiff, Nat.reduceAdd, Nat.reduceSub, Nat.reduceLeDiff, Nat.reduceLT, Nat.reduceBEq, Nat.reduceBNe, reduceCtorEq, h1, w1] at c41 c43 ⊢
  refine callF c41 rfl ?_
  simp only [wkA, Nat.reduceEqDiff, Nat.reduceAdd, Nat.reduceSub, Nat.reduceLeDiff, Nat.reduceLT, Nat.reduceBEq, Nat.reduceBNe, reduceCtorEq, e1, e2, w1]
  simp only [ic36_1, wkA, Nat.reduceEqDiff, Nat.reduceAdd, Nat.reduceSub, Nat.reduceLeDiff, Nat.reduceLT, Nat.reduceBEq, Nat.reduceBNe, reduceCtorEq, w2]
  refine callF c43 rfl ?_
  simp only [wkA, Nat.reduceEqDiff, Nat.reduceAdd, Nat.reduceSub, Nat.reduceLeDiff, Nat.reduceLT, Nat.reduceBEq, Nat.reduceBNe, reduceCtorEq]

/-- How far two are apart, of which the second one is more, both above 0. -/
theorem con37 {s1 s2 : List UInt8} {e1 e2 E : Int} {x y : Nat} (h1 : okD s1 e1) (h2 : okD s2 e2) (hE : E = if e2 < e1 then e2 else e1) (hd1 : e1 - E < 10000) (hd2 : e2 - E < 10000)
    (hx : x = dv s1 * 10 ^ (e1 - E).toNat) (hy : y = dv s2 * 10 ^ (e2 - E).toNat) (hl1 : s1.length < 10000) (hl2 : s2.length < 10000) (hlt : x < y) (hE9 : E < 900000) : Fn 37 [D false s1 e1, D false s2 e2] (N false (core (y - x)) (ne (y - x) E)) := by
  have c91 := con91_lt (n1 := false) (n2 := true) rfl h1 h2 hE hd1 hd2 hx hy hl1 hl2 hlt
  unfold N at c91
  have c63 := con63 (n1 := false) (n2 := false) c91 ⟨_, _, _, rfl⟩
  have hb2 := h2.2.2
  have hb1 := h1.2.2
  have hv2 : nd y ≤ s2.length + (e2 - E).toNat := by rw [hy]; exact Nat.le_trans nd_mul_le (by have := nd_dv h2.1; omega)
  have hE1 : E ≤ e1 ∧ E ≤ e2 ∧ -1000000 < E ∧ E < 1000000 := by rw [hE]; split <;> omega
  have hny := nd_mono (show y - x ≤ y by omega)
  · have hN := okN (c := y - x) (e := E) (by omega) (by omega)
    have c62 := con62 (neg := sgn true (y - x)) hN
    rw [dv_text] at c62
    unfold N at c62 ⊢
    refine e37 (by simp) ?_
    generalize text (core (core (y - x))) = s4 at *
    generalize text (core (y - x)) = s3 at *
    generalize ne (core (y - x)) (ne (y - x) E) = x4 at *
    generalize ne (y - x) E = x3 at *
    simp only [D, ic37, wkA, Nat.reduceEqDiff, Nat.reduceAdd, Nat.reduceSub, Nat.reduceLeDiff, Nat.reduceLT, Nat.reduceBEq, Nat.reduceBNe, reduceCtorEq] at c62 c63 ⊢
    refine callF c63 rfl ?_
    simp only [wkA, Nat.reduceEqDiff, Nat.reduceAdd, Nat.reduceSub, Nat.reduceLeDiff, Nat.reduceLT, Nat.reduceBEq, Nat.reduceBNe, reduceCtorEq]
    refine callF c62 rfl ?_
    simp only [wkA, Nat.reduceEqDiff, Nat.reduceAdd, Nat.reduceSub, Nat.reduceLeDiff, Nat.reduceLT, Nat.reduceBEq, Nat.reduceBNe, reduceCtorEq]

def cmpP (s : List UInt8) : Pat := match compileS s with
  | .error _ => Pat.zero
  | .ok p => p
def cmpE (s : List UInt8) : Flt := match compileS s with
  | .error f => f
  | .ok _ => ⟨0, 0⟩
theorem resC_eq (s : List UInt8) : resC (compileS s) = .tup [(cmpP s).av, (cmpE s).av] := by
  unfold resC cmpP cmpE
  cases compileS s <;> rfl
/-- Is it a pattern that may be, and not too long? -/
def patG (s : List UInt8) : Bool := ((cmpE s).e == 0) && decide (s.length ≤ 300)
structure Dm where
  neg : Bool
  s : List UInt8
  e : Int
def Dm.av (d : Dm) : AV := D d.neg d.s d.e
def Dm.in_ (d : Dm) : Bool := decide (d.s.length ≤ 120) && goodD d.s d.e && rngd (dv d.s) d.e
def dmZ : Dm := ⟨false, [], 0⟩
theorem getDm {l : List Dm} {i : Nat} (h : i < l.length) : (l.map Dm.av).getD i .top = (l.getD i dmZ).av := by
  simp [List.getD_eq_getElem?_getD, h]
theorem drop_getD {l : List Dm} {i : Nat} (h : i < l.length) : l.drop i = l.getD i dmZ :: l.drop (i + 1) := by
  rw [List.drop_eq_getElem_cons h, List.getD_eq_getElem?_getD, List.getElem?_eq_getElem h]; rfl
def I12 (p : Pat) (g : Bool) (l : List Dm) (m : Nat) (st : St) : Prop := ∃ (i : Nat) (ok : Bool), m = l.length - i ∧ i ≤ l.length ∧
  st = ⟨[(1, .sl 3 (l.map Dm.av)), (4, .box 4 0), (6, .box 6 0), (8, .bool ok), (9, i64 i)], [(4, .box 26 (avCells Pat.zero.av)), (6, .box 26 (avCells p.av))]⟩ ∧
  (g && l.all Dm.in_) = (ok && (l.drop i).all Dm.in_)
theorem con12 {s : List UInt8} {l : List Dm} (hl : s.length < 1099511627776) (hn : l.length < 1000) (hd : ∀ d ∈ l, d.s.length < 1099511627776) : Fn 12 [.str s, .sl 3 (l.map Dm.av)] (.tup [(cmpP s).av, .bool (patG s && l.all Dm.in_)]) := by
  have c31 := con31 hl
  rw [resC_eq] at c31
  refine e12 (by simp) ?_
  unfold patG
  generalize cmpP s = p at *
  generalize (cmpE s) = f at *
  simp only [Pat.av, Flt.av, items] at c31
  generalize hg : ((f.e == 0) && decide (s.length ≤ 300)) = g
  have hlen : ∀ x : List UInt8, decide ((x.length : Int) ≤ 120) = decide (x.length ≤ 120) := fun x => by rw [decide_eq_decide]; omega
  have hlen3 : decide ((s.length : Int) ≤ 300) = decide (s.length ≤ 300) := by rw [decide_eq_decide]; omega
  have key : VC e0 (.seq (.seq (.reg [⟨(some 9), (.mv (.c (.int .i64 0))), none, .any⟩] false [1, 4, 6, 8, 9] [4, 6]) (.block 0 (.loop ic12_2))) ic12_3) (retQ [(4, (some (some 20))), (5, none)] (.tup [p.av, .bool (g && l.all Dm.in_)]))
      ⟨[(1, .sl 3 (l.map Dm.av)), (4, .box 4 0), (6, .box 6 0), (8, .bool g)], [(4, .box 26 (avCells Pat.zero.av)), (6, .box 26 (avCells p.av))]⟩ := by
    simp only [Pat.av, Pat.zero, items, wkA, Nat.reduceEqDiff, Nat.reduceAdd, Nat.reduceSub, Nat.reduceLeDiff, Nat.reduceLT, Nat.reduceBEq, Nat.reduceBNe, reduceCtorEq]
    refine ⟨I12 p g l, l.length, _, Gh.refl _, ⟨0, g, by omega, by omega, rfl, rfl⟩, ?_⟩
    rintro m st ⟨i, ok, rfl, hi, rfl, hs⟩
    by_cases hlt : i < l.length
    · have h0 : decide ((i : Int) < (l.length : Int)) = true := decide_eq_true (by omega)
      have w1 : IntKind.i64.wrap ((i : Int) + 1) = ((i + 1 : Nat) : Int) := by rw [wrap64] <;> omega
      have hg := getDm hlt
      have hm : l.getD i dmZ ∈ l := by rw [List.getD_eq_getElem?_getD, List.getElem?_eq_getElem hlt]; exact List.getElem_mem _
      have hb := hd _ hm
      rw [drop_getD hlt, List.all_cons] at hs
      generalize l.getD i dmZ = d at *
      simp only [Dm.av, D] at hg
      have next : ∀ b : Bool, (ok && d.in_) = b → backQ (I12 p g l) (l.length - i) ⟨[(1, .sl 3 (l.map Dm.av)), (4, .box 4 0), (6, .box 6 0), (8, .bool b), (9, i64 ((i + 1 : Nat) : Int))], [(4, .box 26 (avCells Pat.zero.av)), (6, .box 26 (avCells p.av))]⟩ := by
        intro b hb
        refine ⟨_, l.length - (i + 1), Gh.refl _, by omega, i + 1, b, rfl, by omega, rfl, ?_⟩
        rw [hs, ← Bool.and_assoc, hb]
      simp only [Pat.av, Pat.zero, items, wkA, Nat.reduceEqDiff, Nat.reduceAdd, Nat.reduceSub, Nat.reduceLeDiff, Nat.reduceLT, Nat.reduceBEq, Nat.reduceBNe, reduceCtorEq] at next
      cases ok with
      | false =>
        have n := next false rfl
        simp only [ic12_2, Pat.av, Pat.zero, items, wkA, Nat.reduceEqDiff, Nat.reduceAdd, Nat.reduceSub, Nat.reduceLeDiff, Nat.reduceLT, Nat.reduceBEq, Nat.reduceBNe, reduceCtorEq, List.length_map, h0]
        simp only [ic12_1, wkA, Nat.reduceEqDiff, Nat.reduceAdd, Nat.reduceSub, Nat.reduceLeDiff, Nat.reduceLT, Nat.reduceBEq, Nat.reduceBNe, reduceCtorEq, List.length_map, w1]
        exact n
      | true =>
        cases h1 : decide (d.s.length ≤ 120) with
        | false =>
          have n := next false (by unfold Dm.in_; rw [h1]; rfl)
          rw [← hlen] at h1
          simp only [ic12_2, Pat.av, Pat.zero, items, wkA, Nat.reduceEqDiff, Nat.reduceAdd, Nat.reduceSub, Nat.reduceLeDiff, Nat.reduceLT, Nat.reduceBEq, Nat.reduceBNe, reduceCtorEq, List.length_map, h0]
          simp only [ic12_1, wkA, Nat.reduceEqDiff, Nat.reduceAdd, Nat.reduceSub, Nat.reduceLeDiff, Nat.reduceLT, Nat.reduceBEq, Nat.reduceBNe, reduceCtorEq, List.length_map, Int.toNat_natCast, hg, w1, h1]
          exact ⟨⟨by omega, by omega⟩, n⟩
        | true =>
          have c32 := con32 (neg := d.neg) (e := d.e) hb
          cases h2 : goodD d.s d.e with
          | false =>
            have n := next false (by unfold Dm.in_; rw [h1, h2]; rfl)
            rw [h2] at c32
            rw [← hlen] at h1
            simp only [D] at c32
            simp only [ic12_2, Pat.av, Pat.zero, items, wkA, Nat.reduceEqDiff, Nat.reduceAdd, Nat.reduceSub, Nat.reduceLeDiff, Nat.reduceLT, Nat.reduceBEq, Nat.reduceBNe, reduceCtorEq, List.length_map, h0]
            simp only [ic12_1, wkA, Nat.reduceEqDiff, Nat.reduceAdd, Nat.reduceSub, Nat.reduceLeDiff, Nat.reduceLT, Nat.reduceBEq, Nat.reduceBNe, reduceCtorEq, List.length_map, Int.toNat_natCast, hg, w1, h1]
            refine ⟨⟨by omega, by omega⟩, ⟨by omega, by omega⟩, ?_⟩
            refine callF c32 rfl ?_
            simp only [wkA, Nat.reduceEqDiff, Nat.reduceAdd, Nat.reduceSub, Nat.reduceLeDiff, Nat.reduceLT, Nat.reduceBEq, Nat.reduceBNe, reduceCtorEq, w1]
            exact n
          | true =>
            have c33 := con33 (neg := d.neg) (goodD_ok h2).1
            have n := next (rngd (dv d.s) d.e) (by unfold Dm.in_; rw [h1, h2]; rfl)
            rw [h2] at c32
            rw [← hlen] at h1
            simp only [D] at c32 c33
            generalize rngd (dv d.s) d.e = b3 at *
            simp only [ic12_2, Pat.av, Pat.zero, items, wkA, Nat.reduceEqDiff, Nat.reduceAdd, Nat.reduceSub, Nat.reduceLeDiff, Nat.reduceLT, Nat.reduceBEq, Nat.reduceBNe, reduceCtorEq, List.length_map, h0]
            simp only [ic12_1, wkA, Nat.reduceEqDiff, Nat.reduceAdd, Nat.reduceSub, Nat.reduceLeDiff, Nat.reduceLT, Nat.reduceBEq, Nat.reduceBNe, reduceCtorEq, List.length_map, Int.toNat_natCast, hg, w1, h1]
            refine ⟨⟨by omega, by omega⟩, ⟨by omega, by omega⟩, ?_⟩
            refine callF c32 rfl ?_
            simp only [wkA, Nat.reduceEqDiff, Nat.reduceAdd, Nat.reduceSub, Nat.reduceLeDiff, Nat.reduceLT, Nat.reduceBEq, Nat.reduceBNe, reduceCtorEq, List.length_map, Int.toNat_natCast, hg, w1]
            refine ⟨⟨by omega, by omega⟩, ?_⟩
            refine callF c33 rfl ?_
            simp only [wkA, Nat.reduceEqDiff, Nat.reduceAdd, Nat.reduceSub, Nat.reduceLeDiff, Nat.reduceLT, Nat.reduceBEq, Nat.reduceBNe, reduceCtorEq, w1]
            exact n
    · have h0 : decide ((i : Int) < (l.length : Int)) = false := decide_eq_false (by omega)
      have hdr : l.drop i = [] := List.drop_of_length_le (by omega)
      rw [hdr, List.all_nil, Bool.and_true] at hs
      rw [hs]
      simp only [ic12_2, Pat.av, Pat.zero, items, wkA, Nat.reduceEqDiff, Nat.reduceAdd, Nat.reduceSub, Nat.reduceLeDiff, Nat.reduceLT, Nat.reduceBEq, Nat.reduceBNe, reduceCtorEq, List.length_map, h0]
      simp only [ic12_3, wkA, Nat.reduceEqDiff, Nat.reduceAdd, Nat.reduceSub, Nat.reduceLeDiff, Nat.reduceLT, Nat.reduceBEq, Nat.reduceBNe, reduceCtorEq]
  simp only [Pat.av, Pat.zero, items, wkA, Nat.reduceEqDiff, Nat.reduceAdd, Nat.reduceSub, Nat.reduceLeDiff, Nat.reduceLT, Nat.reduceBEq, Nat.reduceBNe, reduceCtorEq] at key
  cases h1 : (f.e == 0) with
  | false =>
    rw [h1] at hg
    have hg : false = g := hg
    subst hg
    simp only [ic12, wkA, Nat.reduceEqDiff, Nat.reduceAdd, Nat.reduceSub, Nat.reduceLeDiff, Nat.reduceLT, Nat.reduceBEq, Nat.reduceBNe, reduceCtorEq]
    refine callF c31 rfl ?_
    simp only [wkA, Nat.reduceEqDiff, Nat.reduceAdd, Nat.reduceSub, Nat.reduceLeDiff, Nat.reduceLT, Nat.reduceBEq, Nat.reduceBNe, reduceCtorEq, h1]
    exact key
  | true =>
    rw [h1, Bool.true_and, ← hlen3] at hg
    simp only [ic12, wkA, Nat.reduceEqDiff, Nat.reduceAdd, Nat.reduceSub, Nat.reduceLeDiff, Nat.reduceLT, Nat.reduceBEq, Nat.reduceBNe, reduceCtorEq]
    refine callF c31 rfl ?_
    simp only [wkA, Nat.reduceEqDiff, Nat.reduceAdd, Nat.reduceSub, Nat.reduceLeDiff, Nat.reduceLT, Nat.reduceBEq, Nat.reduceBNe, reduceCtorEq, h1, hg]
    exact key
end Go.Proofs.YtgehlcgjchfibaaGreatDoor.F

namespace Go.Proofs.YtgehlcgjchfibaaGreatDoor.F

theorem shS_err {p : Pat} {m : Int} {neg : Bool} {s : List UInt8} {e k : Int} (h : shS p m neg s e = .err k) : k ≠ 0 := by
  unfold shS at h
  split at h
  · injection h with h; omega
  · split at h
    · injection h with h; omega
    · split at h
      · injection h with h; omega
      · split at h
        · rename_i k' hk
          injection h with h
          have := rdS_err hk
          omega
        · split at h
          · cases h
          · injection h with h; omega
theorem shS_ok {p : Pat} {m : Int} {neg n : Bool} {s : List UInt8} {e : Int} {q : Nat} {E : Int} (h : shS p m neg s e = .ok n q E) :
    goodD s e = true ∧ rdS p m neg (core (dv s)) (ne (dv s) (e + p.mult)) = .ok n q (E + p.mult) := by
  unfold shS at h
  split at h
  · cases h
  · split at h
    · cases h
    · rename_i hg
      split at h
      · cases h
      · split at h
        · cases h
        · rename_i n' q' E' hr
          split at h
          · injection h with h1 h2 h3
            subst h1 h2 h3
            rw [hr]
            exact ⟨by simpa using hg, by congr 1; omega⟩
          · cases h
theorem core_scale {c : Nat} {e K : Int} (h : K ≤ e) : core c * 10 ^ (ne c e - K).toNat = c * 10 ^ (e - K).toNat := by
  by_cases h0 : c = 0
  · subst h0; simp [core_zero]
  · rw [ne_pos h0]
    have h1 : (e + tz c - K).toNat = tz c + (e - K).toNat := by omega
    rw [h1, Nat.pow_add, ← Nat.mul_assoc, core_mul]
theorem ne_ge {c : Nat} {e K : Int} (h : K ≤ e) (h0 : K ≤ 0) : K ≤ ne c e := by
  unfold ne; split <;> omega
theorem shS_bd {p : Pat} (hp : p.Ok) {m : Int} {neg n : Bool} {s : List UInt8} {e : Int} {q : Nat} {E : Int} (h : shS p m neg s e = .ok n q E) : n = neg ∧ nd q < 20000 ∧ -9000 < E ∧ E < 9000 := by
  obtain ⟨hg, hr⟩ := shS_ok h
  have g := goodD_ok hg
  have hd := nd_dv g.1.1
  have hk := Pat.mult_le p
  have hz := tz_le (dv s)
  have hn : nd (core (dv s)) ≤ nd (dv s) := by
    by_cases h0 : dv s = 0
    · rw [h0, core_zero]; omega
    · rw [nd_core h0]; omega
  have hne : -1600 < ne (dv s) (e + p.mult) ∧ ne (dv s) (e + p.mult) < 2900 := by unfold ne; split <;> omega
  have := rdS_ok hp (by omega) (by omega) hr
  exact ⟨this.1, by omega, by omega, by omega⟩
theorem shS_order {p : Pat} (hp : p.Ok) {m : Int} {n1 n2 r1 r2 : Bool} {s1 s2 : List UInt8} {e1 e2 E : Int} {q1 q2 : Nat} {E1 E2 E' : Int} (ha : shS p m n1 s1 e1 = .ok r1 q1 E1) (hb : shS p m n2 s2 e2 = .ok r2 q2 E2)
    (hE : E = if e2 < e1 then e2 else e1) (hE' : E' = if ne q2 E2 < ne q1 E1 then ne q2 E2 else ne q1 E1)
    (h : cmpD n1 (dv s1 * 10 ^ (e1 - E).toNat) n2 (dv s2 * 10 ^ (e2 - E).toNat) ≤ 0) :
    cmpD r1 (core q1 * 10 ^ (ne q1 E1 - E').toNat) r2 (core q2 * 10 ^ (ne q2 E2 - E').toNat) ≤ 0 := by
  obtain ⟨g1, w1⟩ := shS_ok ha
  obtain ⟨g2, w2⟩ := shS_ok hb
  have b1 := goodD_ok g1
  have b2 := goodD_ok g2
  have d1 := nd_dv b1.1.1
  have d2 := nd_dv b2.1.1
  have hk := Pat.mult_le p
  have hc := hp.cnt
  have hm := Pat.most_le hp
  have bd1 := shS_bd hp ha
  have bd2 := shS_bd hp hb
  have hEb : E ≤ e1 ∧ E ≤ e2 ∧ -1001 < E := by rw [hE]; split <;> omega
  have hn1 := ne_ge (c := q1) (K := -9000) (show (-9000 : Int) ≤ E1 by omega) (by omega)
  have hn2 := ne_ge (c := q2) (K := -9000) (show (-9000 : Int) ≤ E2 by omega) (by omega)
  have hEb' : E' ≤ ne q1 E1 ∧ E' ≤ ne q2 E2 ∧ -9001 < E' := by rw [hE']; split <;> omega
  have t1 : -20000 + (p.mult : Int) ≤ top (dv s1) (e1 + p.mult) - p.most + 1 := by unfold top; split <;> omega
  have t2 : -20000 + (p.mult : Int) ≤ top (dv s2) (e2 + p.mult) - p.most + 1 := by unfold top; split <;> omega
  rw [cmpD_le] at h ⊢
  -- ahead
  have hs : sv n1 (core (dv s1) * 10 ^ (ne (dv s1) (e1 + p.mult) - (-20000 + p.mult)).toNat) ≤ sv n2 (core (dv s2) * 10 ^ (ne (dv s2) (e2 + p.mult) - (-20000 + p.mult)).toNat) := by
    rw [core_scale (by omega), core_scale (by omega)]
    have x1 : dv s1 * 10 ^ (e1 + (p.mult : Int) - (-20000 + p.mult)).toNat = dv s1 * 10 ^ (e1 - E).toNat * 10 ^ (E + 20000).toNat := by
      rw [Nat.mul_assoc, ← Nat.pow_add]; congr 2; omega
    have x2 : dv s2 * 10 ^ (e2 + (p.mult : Int) - (-20000 + p.mult)).toNat = dv s2 * 10 ^ (e2 - E).toNat * 10 ^ (E + 20000).toNat := by
      rw [Nat.mul_assoc, ← Nat.pow_add]; congr 2; omega
    rw [x1, x2, sv_le_mul (Nat.pow_pos (by decide))]
    exact h
  have z1 := ne_ge (c := dv s1) (K := -20000 + (p.mult : Int)) (show -20000 + (p.mult : Int) ≤ e1 + p.mult by omega) (by omega)
  have z2 := ne_ge (c := dv s2) (K := -20000 + (p.mult : Int)) (show -20000 + (p.mult : Int) ≤ e2 + p.mult by omega) (by omega)
  obtain ⟨k1, k2, hr⟩ := rdS_order hp z1 z2 (by omega) (by rw [top_core]; exact t1) (by rw [top_core]; exact t2) w1 w2 hs
  -- behind
  have y1 : q1 * 10 ^ (E1 + (p.mult : Int) - (-20000 + p.mult)).toNat = core q1 * 10 ^ (ne q1 E1 - E').toNat * 10 ^ (E' + 20000).toNat := by
    rw [Nat.mul_assoc, ← Nat.pow_add, ← show (ne q1 E1 - -20000).toNat = (ne q1 E1 - E').toNat + (E' + 20000).toNat by omega, core_scale (by omega)]
    congr 2; omega
  have y2 : q2 * 10 ^ (E2 + (p.mult : Int) - (-20000 + p.mult)).toNat = core q2 * 10 ^ (ne q2 E2 - E').toNat * 10 ^ (E' + 20000).toNat := by
    rw [Nat.mul_assoc, ← Nat.pow_add, ← show (ne q2 E2 - -20000).toNat = (ne q2 E2 - E').toNat + (E' + 20000).toNat by omega, core_scale (by omega)]
    congr 2; omega
  rw [y1, y2, sv_le_mul (Nat.pow_pos (by decide))] at hr
  exact hr
/-- 0 stays 0. -/
theorem fits_zero (e p : Int) : fits 0 e p = true := by unfold fits; simp
theorem most_pos {p : Pat} (hp : CmpOk p) (hc : p.sci = true ∨ 0 < p.minSig) : 1 ≤ p.most := by
  have := hp.cnt
  unfold Pat.most
  split
  · omega
  · unfold Pat.whole
    split
    · omega
    · rename_i h1
      have : ¬ (p.minInt + p.maxFrac = 0) := fun h => h1 (.inr (.inr h))
      omega
theorem rngd_zero (e : Int) : rngd 0 e = true := by unfold rngd; simp
theorem shS_zero {p : Pat} (hp : CmpOk p) {m : Int} (h : 0 ≤ m ∧ m ≤ 6) (neg : Bool) : ∃ E, shS p m neg [48] 0 = .ok neg 0 E := by
  have hd : dv [48] = 0 := rfl
  have hg : goodD [48] 0 = true := rfl
  unfold shS
  rw [good8_of h, hg, hd, rngd_zero, core_zero]
  simp only [Bool.true_eq_false, if_false]
  generalize hx : ne 0 (0 + (p.mult : Int)) = x
  have : ∃ F, rdS p m neg 0 x = .ok neg 0 F := by
    unfold rdS
    split
    · rename_i hc
      unfold sgS
      rw [if_neg (by have := most_pos hp hc; omega)]
      unfold plS
      rw [good8_of h, fits_zero]
      exact ⟨x, by simp⟩
    · split
      · unfold inS
        rw [good8_of h]
        exact ⟨x, by simp⟩
      · unfold plS
        rw [good8_of h, fits_zero]
        exact ⟨x, by simp⟩
  obtain ⟨F, hF⟩ := this
  rw [hF]
  simp only
  rw [rngd_zero, if_pos rfl]
  exact ⟨_, rfl⟩
theorem isS_zero {p : Pat} (hp : CmpOk p) (neg : Bool) (e : Int) : isS p neg 0 e = true := by
  unfold isS
  split
  · rename_i hc
    have := most_pos hp hc
    rw [core_zero]
    have : (text 0).length = 1 := rfl
    simp only [decide_eq_true_eq]
    omega
  · split
    · unfold inS
      have h7 : good8 7 = true := rfl
      rw [h7]
      simp [Rs.isOk]
    · exact fits_zero _ _
end Go.Proofs.YtgehlcgjchfibaaGreatDoor.F
