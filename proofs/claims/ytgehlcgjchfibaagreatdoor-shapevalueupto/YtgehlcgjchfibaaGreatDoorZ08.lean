/-
  What the functions that the laws call compute, for every input that the statements allow (part 8): for the claims up to a bulk of 1048576.
-/
import Derived.Test.YtgehlcgjchfibaaGreatDoorZ07
set_option maxRecDepth 100000
set_option linter.unusedVariables false
set_option linter.unusedSimpArgs false
set_option linter.defProp false
set_option maxHeartbeats 4000000
namespace Go.Proofs.YtgehlcgjchfibaaGreatDoor.F
open Go Go.RowKit Go.Proofs
theorem sizesS_nil (n : Nat) : sizesS [] n = [n] := rfl
theorem sizesS_cons (c : UInt8) (s : List UInt8) (n : Nat) : sizesS (c :: s) n = if c = 44 then n :: sizesS s 0 else sizesS s (n + 1) := rfl
theorem sizesS_len (s : List UInt8) : ∀ n, (sizesS s n).length ≤ s.length + 1 := by
  induction s with
  | nil => intro n; simp [sizesS_nil]
  | cons c s ih =>
    intro n
    rw [sizesS_cons]
    split
    · have := ih 0; simp; omega
    · have := ih (n + 1); simp; omega
theorem plainS_snoc (s : List UInt8) (c : UInt8) : plainS (s ++ [c]) = plainS s ++ (if (c != 44) = true then [c] else []) := by
  rw [plainS, plainS, List.filter_append, List.filter_cons, List.filter_nil]
theorem plainS_len (s : List UInt8) : (plainS s).length ≤ s.length := List.length_filter_le _ _
def I10 (p : Pat) (whole fraction : List UInt8) (point : Bool) (j : Nat) (st : St) : Prop := ∃ (i n : Nat) (szs : List Nat), j = whole.length + 1 - i ∧ i ≤ whole.length + 1 ∧ n ≤ i ∧ szs.length ≤ i ∧
  st = ⟨[(2, .box 2 0), (4, .box 4 0), (7, .bool p.sci), (10, .str whole), (11, .str fraction), (12, .bool point), (13, .own 139), (14, .str (plainS (whole.take i))), (15, i64 n), (16, i64 i)], obN p ++ [szN szs]⟩ ∧
  (i ≤ whole.length → sizesS whole 0 = szs ++ sizesS (whole.drop i) n) ∧ (i = whole.length + 1 → sizesS whole 0 = szs)
theorem seg35 (p : Pat) (whole fraction : List UInt8) (point : Bool) (ex : List (Nat × AV)) (hw : whole.length < 400000) (hf : fraction.length < 400000) (hsig : p.minSig = 0) (hall : point = false → fraction = []) (hp0 : p.prim = 0 ∧ p.sec = 0) :
    VC e0 ic90_35 (qN (sizN p (sizesS whole 0) (plainS whole) fraction point)) ⟨(2, .box 2 0) :: (4, .box 4 0) :: (7, .bool p.sci) :: (10, .str whole) :: (11, .str fraction) :: (12, .bool point) :: ex, obN p⟩ := by
  simp only [ic90_35, obN, Pat.av, Pat.zero, items, wkA, Nat.reduceEqDiff, Nat.reduceAdd, Nat.reduceSub, Nat.reduceLeDiff, Nat.reduceLT, Nat.reduceBEq, Nat.reduceBNe, reduceCtorEq]
  refine ⟨I10 p whole fraction point, whole.length + 1, ⟨[(2, .box 2 0), (4, .box 4 0), (7, .bool p.sci), (10, .str whole), (11, .str fraction), (12, .bool point), (13, .own 139), (14, .str []), (15, i64 0), (16, i64 0)], obN p ++ [szN []]⟩, ?_, ⟨0, 0, [], rfl, by omega, by omega, by simp, rfl, by simp, by omega⟩, ?_⟩
  · have := Gh.own (s := ⟨[(2, .box 2 0), (4, .box 4 0), (7, .bool p.sci), (10, .str whole), (11, .str fraction), (12, .bool point), (13, .nil), (14, .str []), (15, i64 0), (16, i64 0)], obN p⟩) (t := 13) 3 1 139 rfl (by decide)
    refine Gh.trans ?_ ((this.trans (Gh.keep _ [2, 4, 7, 10, 11, 12, 13, 14, 15, 16] [2, 4, 139])).trans ?_)
    · simp only [obN, Pat.av, Pat.zero, items, wkA, Nat.reduceEqDiff, Nat.reduceAdd, Nat.reduceSub, Nat.reduceLeDiff, Nat.reduceLT, Nat.reduceBEq, Nat.reduceBNe, reduceCtorEq]
      exact Gh.refl _
    · simp only [obN, Pat.av, Pat.zero, items, wkA, Nat.reduceEqDiff, Nat.reduceAdd, Nat.reduceSub, Nat.reduceLeDiff, Nat.reduceLT, Nat.reduceBEq, Nat.reduceBNe, reduceCtorEq]
      exact Gh.refl _
  · rintro j st ⟨i, n, szs, rfl, hi, hni, hsl, rfl, hS1, hS2⟩
    by_cases hle : i ≤ whole.length
    · have e0 : decide ((i : Int) ≤ (whole.length : Int)) = true := decide_eq_true (by omega)
      have w1 : IntKind.i64.wrap ((i : Int) + 1) = ((i + 1 : Nat) : Int) := by rw [wrap64] <;> omega
      have w2 : IntKind.i64.wrap ((n : Int) + 1) = ((n + 1 : Nat) : Int) := by rw [wrap64] <;> omega
      have hS := hS1 hle
      by_cases hlt : i < whole.length
      · have e1 : decide ((i : Int) < (whole.length : Int)) = true := decide_eq_true (by omega)
        have hx : ((((whole.getD i 0).toNat : Nat) : Int) != 44) = (whole.getD i 0 != 44) := by
          have := beq8 (whole.getD i 0) 44
          rw [bne, bne]; exact congrArg (!·) this
        have htk : (whole.drop i).take (i + 1 - i) = [whole.getD i 0] := by rw [drop_get hlt]; simp
        have hpl := plainS_snoc (whole.take i) (whole.getD i 0)
        rw [← take_succ8 hlt] at hpl
        have hpll := plainS_len (whole.take i)
        have htl : (whole.take i).length = i := by simp; omega
        rw [drop_get hlt, sizesS_cons] at hS
        cases h1 : (whole.getD i 0 != 44) with
        | true =>
          rw [h1] at hx
          rw [h1, if_pos rfl] at hpl
          rw [if_neg (by simpa using h1)] at hS
          simp only [ic90_10, obN, Pat.av, Pat.zero, items, wkA, Nat.reduceEqDiff, Nat.reduceAdd, Nat.reduceSub, Nat.reduceLeDiff, Nat.reduceLT, Nat.reduceBEq, Nat.reduceBNe, reduceCtorEq, e0]
          simp only [ic90_9, ic90_8, wkA, Nat.reduceEqDiff, Nat.reduceAdd, Nat.reduceSub, Nat.reduceLeDiff, Nat.reduceLT, Nat.reduceBEq, Nat.reduceBNe, reduceCtorEq, e1, Int.toNat_natCast, hx, htk, w1, w2]
          refine ⟨⟨by omega, by omega⟩, ⟨by omega, by omega, by omega⟩, by omega, ?_⟩
          refine ⟨_, whole.length + 1 - (i + 1), Gh.refl _, by omega, i + 1, n + 1, szs, rfl, by omega, by omega, by omega, ?_, fun _ => hS, fun h => by omega⟩
          rw [hpl]; rfl
        | false =>
          rw [h1] at hx
          rw [h1, if_neg (by simp), List.append_nil] at hpl
          rw [if_pos (by simpa using h1)] at hS
          simp only [ic90_10, obN, Pat.av, Pat.zero, items, wkA, Nat.reduceEqDiff, Nat.reduceAdd, Nat.reduceSub, Nat.reduceLeDiff, Nat.reduceLT, Nat.reduceBEq, Nat.reduceBNe, reduceCtorEq, e0]
          simp only [ic90_9, ic90_8, ic90_7, wkA, Nat.reduceEqDiff, Nat.reduceAdd, Nat.reduceSub, Nat.reduceLeDiff, Nat.reduceLT, Nat.reduceBEq, Nat.reduceBNe, reduceCtorEq, e1, Int.toNat_natCast, hx, w1, List.length_map]
          refine ⟨⟨by omega, by omega⟩, ⟨by omega, by omega⟩, ?_⟩
          refine ⟨_, whole.length + 1 - (i + 1), Gh.refl _, by omega, i + 1, 0, szs ++ [n], rfl, by omega, by omega, by simp; omega, ?_, fun _ => by rw [hS]; simp, fun h => by omega⟩
          rw [hpl]
          simp only [obN, szN, Pat.av, Pat.zero, items, wkA, Nat.reduceEqDiff, Nat.reduceAdd, Nat.reduceSub, Nat.reduceLeDiff, Nat.reduceLT, Nat.reduceBEq, Nat.reduceBNe, reduceCtorEq, List.map_append]
          rfl
      · have e1 : decide ((i : Int) < (whole.length : Int)) = false := decide_eq_false (by omega)
        have hie : i = whole.length := by omega
        have hd : whole.drop i = [] := List.drop_of_length_le (by omega)
        have ht1 : whole.take i = whole := List.take_of_length_le (by omega)
        have ht2 : whole.take (i + 1) = whole := List.take_of_length_le (by omega)
        rw [hd, sizesS_nil] at hS
        simp only [ic90_10, obN, Pat.av, Pat.zero, items, wkA, Nat.reduceEqDiff, Nat.reduceAdd, Nat.reduceSub, Nat.reduceLeDiff, Nat.reduceLT, Nat.reduceBEq, Nat.reduceBNe, reduceCtorEq, e0]
        simp only [ic90_9, ic90_8, ic90_7, wkA, Nat.reduceEqDiff, Nat.reduceAdd, Nat.reduceSub, Nat.reduceLeDiff, Nat.reduceLT, Nat.reduceBEq, Nat.reduceBNe, reduceCtorEq, e1, w1, List.length_map]
        refine ⟨⟨by omega, by omega⟩, ?_⟩
        refine ⟨_, whole.length + 1 - (i + 1), Gh.refl _, by omega, i + 1, 0, szs ++ [n], rfl, by omega, by omega, by simp; omega, ?_, fun h => by omega, fun _ => hS⟩
        rw [ht1, ht2]
        simp only [obN, szN, Pat.av, Pat.zero, items, wkA, Nat.reduceEqDiff, Nat.reduceAdd, Nat.reduceSub, Nat.reduceLeDiff, Nat.reduceLT, Nat.reduceBEq, Nat.reduceBNe, reduceCtorEq, List.map_append]
        rfl
    · have e0 : decide ((i : Int) ≤ (whole.length : Int)) = false := decide_eq_false (by omega)
      have hie : i = whole.length + 1 := by omega
      have ht1 : whole.take i = whole := List.take_of_length_le (by omega)
      have hsz := hS2 hie
      have hl := sizesS_len whole 0
      have hpl := plainS_len whole
      have f := fun ex => seg34 p szs whole (plainS whole) fraction point ex (by rw [← hsz]; omega) (by omega) hf hsig hall hp0
      rw [ht1, hsz]
      simp only [obN, Pat.av, Pat.zero, items, wkA, Nat.reduceEqDiff, Nat.reduceAdd, Nat.reduceSub, Nat.reduceLeDiff, Nat.reduceLT, Nat.reduceBEq, Nat.reduceBNe, reduceCtorEq] at f
      simp only [ic90_10, obN, Pat.av, Pat.zero, items, wkA, Nat.reduceEqDiff, Nat.reduceAdd, Nat.reduceSub, Nat.reduceLeDiff, Nat.reduceLT, Nat.reduceBEq, Nat.reduceBNe, reduceCtorEq, e0]
      exact f _
theorem seg36 (p : Pat) (whole fraction : List UInt8) (point : Bool) (ex : List (Nat × AV)) (hw : whole.length < 400000) (hf : fraction.length < 400000) (hsig : p.minSig = 0) (hall : point = false → fraction = []) (hp0 : p.prim = 0 ∧ p.sec = 0) (R : Except Int Pat)
    (hR : R = if 0 < countS fraction 44 then .error 5 else sizN p (sizesS whole 0) (plainS whole) fraction point) :
    VC e0 ic90_36 (qN R) ⟨(2, .box 2 0) :: (4, .box 4 0) :: (7, .bool p.sci) :: (10, .str whole) :: (11, .str fraction) :: (12, .bool point) :: ex, obN p⟩ := by
  have c1 := con118 fraction 44 (by omega)
  have h44 : (((44 : UInt8).toNat : Nat) : Int) = 44 := rfl
  rw [h44] at c1
  have e1 : decide (((countS fraction 44 : Nat) : Int) > 0) = decide (0 < countS fraction 44) := by rw [decide_eq_decide]; omega
  by_cases h : 0 < countS fraction 44
  · rw [decide_eq_true h] at e1
    rw [if_pos h] at hR
    subst hR
    simp only [ic90_36, obN, Pat.av, Pat.zero, items, wkA, Nat.reduceEqDiff, Nat.reduceAdd, Nat.reduceSub, Nat.reduceLeDiff, Nat.reduceLT, Nat.reduceBEq, Nat.reduceBNe, reduceCtorEq]
    refine callF c1 rfl ?_
    simp only [wkA, Nat.reduceEqDiff, Nat.reduceAdd, Nat.reduceSub, Nat.reduceLeDiff, Nat.reduceLT, Nat.reduceBEq, Nat.reduceBNe, reduceCtorEq, e1]
    rfl
  · rw [decide_eq_false h] at e1
    rw [if_neg h] at hR
    subst hR
    have f := fun ex => seg35 p whole fraction point ex hw hf hsig hall hp0
    simp only [obN, Pat.av, Pat.zero, items, wkA, Nat.reduceEqDiff, Nat.reduceAdd, Nat.reduceSub, Nat.reduceLeDiff, Nat.reduceLT, Nat.reduceBEq, Nat.reduceBNe, reduceCtorEq] at f
    simp only [ic90_36, obN, Pat.av, Pat.zero, items, wkA, Nat.reduceEqDiff, Nat.reduceAdd, Nat.reduceSub, Nat.reduceLeDiff, Nat.reduceLT, Nat.reduceBEq, Nat.reduceBNe, reduceCtorEq]
    refine callF c1 rfl ?_
    simp only [wkA, Nat.reduceEqDiff, Nat.reduceAdd, Nat.reduceSub, Nat.reduceLeDiff, Nat.reduceLT, Nat.reduceBEq, Nat.reduceBNe, reduceCtorEq, e1]
    exact f _
theorem cutS_len (s : List UInt8) (c : UInt8) : (cutS s c).1.length ≤ s.length ∧ (cutS s c).2.1.length ≤ s.length := by
  induction s with
  | nil => simp [cutS]
  | cons x t ih =>
    rw [cutS_cons]
    split
    · simp
    · simp; omega
theorem cutS_no (s : List UInt8) (c : UInt8) : (cutS s c).2.2 = false → (cutS s c).2.1 = [] := by
  induction s with
  | nil => intro _; rfl
  | cons x t ih =>
    rw [cutS_cons]
    split
    · intro h; simp at h
    · intro h; exact ih h
theorem seg37 (p : Pat) (body : List UInt8) (ex : List (Nat × AV)) (hb : body.length < 400000) (hsig : p.minSig = 0) (hp0 : p.prim = 0 ∧ p.sec = 0) :
    VC e0 ic90_37 (qN (fraN p (cutS body 46).1 (cutS body 46).2.1 (cutS body 46).2.2)) ⟨(2, .box 2 0) :: (4, .box 4 0) :: (5, .str body) :: (7, .bool p.sci) :: ex, obN p⟩ := by
  have c1 := con116 body 46 (by omega)
  have hl := cutS_len body 46
  have hno := cutS_no body 46
  generalize (cutS body 46).1 = whole at *
  generalize (cutS body 46).2.1 = fraction at *
  generalize (cutS body 46).2.2 = point at *
  have c2 := con118 fraction 46 (by omega)
  have h46 : (((46 : UInt8).toNat : Nat) : Int) = 46 := rfl
  rw [h46] at c1 c2
  have e1 : decide (((countS fraction 46 : Nat) : Int) > 0) = decide (0 < countS fraction 46) := by rw [decide_eq_decide]; omega
  have e2 : (fraction == []) = decide (fraction = []) := strBeq _ _
  unfold fraN
  by_cases h : 0 < countS fraction 46
  · rw [decide_eq_true h] at e1
    rw [if_pos (.inl h)]
    simp only [ic90_37, obN, Pat.av, Pat.zero, items, wkA, Nat.reduceEqDiff, Nat.reduceAdd, Nat.reduceSub, Nat.reduceLeDiff, Nat.reduceLT, Nat.reduceBEq, Nat.reduceBNe, reduceCtorEq]
    refine callF c1 rfl ?_
    simp only [wkA, Nat.reduceEqDiff, Nat.reduceAdd, Nat.reduceSub, Nat.reduceLeDiff, Nat.reduceLT, Nat.reduceBEq, Nat.reduceBNe, reduceCtorEq]
    refine callF c2 rfl ?_
    simp only [wkA, Nat.reduceEqDiff, Nat.reduceAdd, Nat.reduceSub, Nat.reduceLeDiff, Nat.reduceLT, Nat.reduceBEq, Nat.reduceBNe, reduceCtorEq, e1]
    rfl
  · rw [decide_eq_false h] at e1
    have f := fun ex => seg36 p whole fraction point ex (by omega) (by omega) hsig hno hp0 _ rfl
    simp only [obN, Pat.av, Pat.zero, items, wkA, Nat.reduceEqDiff, Nat.reduceAdd, Nat.reduceSub, Nat.reduceLeDiff, Nat.reduceLT, Nat.reduceBEq, Nat.reduceBNe, reduceCtorEq] at f
    cases hpt : point with
    | false =>
      rw [if_neg (by rintro (h1 | h1); · exact h h1
                     · simp at h1)]
      rw [hpt] at f
      simp only [ic90_37, obN, Pat.av, Pat.zero, items, wkA, Nat.reduceEqDiff, Nat.reduceAdd, Nat.reduceSub, Nat.reduceLeDiff, Nat.reduceLT, Nat.reduceBEq, Nat.reduceBNe, reduceCtorEq]
      rw [hpt] at c1
      refine callF c1 rfl ?_
      simp only [wkA, Nat.reduceEqDiff, Nat.reduceAdd, Nat.reduceSub, Nat.reduceLeDiff, Nat.reduceLT, Nat.reduceBEq, Nat.reduceBNe, reduceCtorEq]
      refine callF c2 rfl ?_
      simp only [wkA, Nat.reduceEqDiff, Nat.reduceAdd, Nat.reduceSub, Nat.reduceLeDiff, Nat.reduceLT, Nat.reduceBEq, Nat.reduceBNe, reduceCtorEq, e1]
      exact f _
    | true =>
      rw [hpt] at c1 f
      by_cases hfn : fraction = []
      · rw [decide_eq_true hfn] at e2
        rw [if_pos (.inr ⟨rfl, hfn⟩)]
        simp only [ic90_37, obN, Pat.av, Pat.zero, items, wkA, Nat.reduceEqDiff, Nat.reduceAdd, Nat.reduceSub, Nat.reduceLeDiff, Nat.reduceLT, Nat.reduceBEq, Nat.reduceBNe, reduceCtorEq]
        refine callF c1 rfl ?_
        simp only [wkA, Nat.reduceEqDiff, Nat.reduceAdd, Nat.reduceSub, Nat.reduceLeDiff, Nat.reduceLT, Nat.reduceBEq, Nat.reduceBNe, reduceCtorEq]
        refine callF c2 rfl ?_
        simp only [wkA, Nat.reduceEqDiff, Nat.reduceAdd, Nat.reduceSub, Nat.reduceLeDiff, Nat.reduceLT, Nat.reduceBEq, Nat.reduceBNe, reduceCtorEq, e1, e2]
        rfl
      · rw [decide_eq_false hfn] at e2
        rw [if_neg (by rintro (h1 | h1); · exact h h1
                       · exact hfn h1.2)]
        simp only [ic90_37, obN, Pat.av, Pat.zero, items, wkA, Nat.reduceEqDiff, Nat.reduceAdd, Nat.reduceSub, Nat.reduceLeDiff, Nat.reduceLT, Nat.reduceBEq, Nat.reduceBNe, reduceCtorEq]
        refine callF c1 rfl ?_
        simp only [wkA, Nat.reduceEqDiff, Nat.reduceAdd, Nat.reduceSub, Nat.reduceLeDiff, Nat.reduceLT, Nat.reduceBEq, Nat.reduceBNe, reduceCtorEq]
        refine callF c2 rfl ?_
        simp only [wkA, Nat.reduceEqDiff, Nat.reduceAdd, Nat.reduceSub, Nat.reduceLeDiff, Nat.reduceLT, Nat.reduceBEq, Nat.reduceBNe, reduceCtorEq, e1, e2]
        exact f _
theorem neq8 (x c : UInt8) : (((x.toNat : Nat) : Int) != ((c.toNat : Nat) : Int)) = !(x == c) := by
  rw [bne, beq8]
def I6 (p : Pat) (body : List UInt8) (j : Nat) (st : St) : Prop := ∃ i : Nat, j = body.length - i ∧ i ≤ body.length ∧ st = ⟨[(2, .box 2 0), (4, .box 4 0), (5, .str body), (7, .bool p.sci), (8, i64 i)], obN p⟩ ∧ body.all okCh = (body.drop i).all okCh
theorem seg38 (p : Pat) (body : List UInt8) (ex : List (Nat × AV)) (hb : body.length < 400000) (hsig : p.minSig = 0) (hp0 : p.prim = 0 ∧ p.sec = 0) :
    VC e0 ic90_38 (qN (bodN p body)) ⟨(2, .box 2 0) :: (4, .box 4 0) :: (5, .str body) :: (7, .bool p.sci) :: ex, obN p⟩ := by
  simp only [ic90_38, obN, Pat.av, Pat.zero, items, wkA, Nat.reduceEqDiff, Nat.reduceAdd, Nat.reduceSub, Nat.reduceLeDiff, Nat.reduceLT, Nat.reduceBEq, Nat.reduceBNe, reduceCtorEq]
  refine ⟨I6 p body, body.length, _, Gh.refl _, ⟨0, rfl, by omega, rfl, by simp⟩, ?_⟩
  rintro j st ⟨i, rfl, hi, rfl, hall⟩
  by_cases hlt : i < body.length
  · have e0 : decide ((i : Int) < (body.length : Int)) = true := decide_eq_true (by omega)
    have w1 : IntKind.i64.wrap ((i : Int) + 1) = ((i + 1 : Nat) : Int) := by rw [wrap64] <;> omega
    rw [drop_get hlt, List.all_cons] at hall
    have n1 := neq8 (body.getD i 0) 35
    have n2 := neq8 (body.getD i 0) 64
    have n3 := neq8 (body.getD i 0) 44
    have n4 := neq8 (body.getD i 0) 46
    have h35 : (((35 : UInt8).toNat : Nat) : Int) = 35 := rfl
    have h64 : (((64 : UInt8).toNat : Nat) : Int) = 64 := rfl
    have h44 : (((44 : UInt8).toNat : Nat) : Int) = 44 := rfl
    have h46 : (((46 : UInt8).toNat : Nat) : Int) = 46 := rfl
    rw [h35] at n1; rw [h64] at n2; rw [h44] at n3; rw [h46] at n4
    have next : okCh (body.getD i 0) = true → backQ (I6 p body) (body.length - i) ⟨[(2, .box 2 0), (4, .box 4 0), (5, .str body), (7, .bool p.sci), (8, i64 ((i + 1 : Nat) : Int))], obN p⟩ := by
      intro h
      rw [h, Bool.true_and] at hall
      exact ⟨_, body.length - (i + 1), Gh.refl _, by omega, i + 1, rfl, by omega, rfl, hall⟩
    have stop : okCh (body.getD i 0) = false → bodN p body = .error 4 := by
      intro h
      rw [h, Bool.false_and] at hall
      rw [bodN, if_pos hall]
    unfold okCh at next stop
    simp only [obN, Pat.av, Pat.zero, items, wkA, Nat.reduceEqDiff, Nat.reduceAdd, Nat.reduceSub, Nat.reduceLeDiff, Nat.reduceLT, Nat.reduceBEq, Nat.reduceBNe, reduceCtorEq] at next
    cases h1 : (body.getD i 0 == 35) with
    | true =>
      rw [h1, Bool.not_true] at n1
      rw [h1] at next
      simp only [ic90_6, obN, Pat.av, Pat.zero, items, wkA, Nat.reduceEqDiff, Nat.reduceAdd, Nat.reduceSub, Nat.reduceLeDiff, Nat.reduceLT, Nat.reduceBEq, Nat.reduceBNe, reduceCtorEq, e0]
      simp only [ic90_5, ic90_4, wkA, Nat.reduceEqDiff, Nat.reduceAdd, Nat.reduceSub, Nat.reduceLeDiff, Nat.reduceLT, Nat.reduceBEq, Nat.reduceBNe, reduceCtorEq, Int.toNat_natCast, n1, w1]
      exact ⟨⟨by omega, by omega⟩, next rfl⟩
    | false =>
      rw [h1, Bool.not_false] at n1
      rw [h1, Bool.false_or] at next stop
      cases h2 : (body.getD i 0 == 64) with
      | true =>
        rw [h2, Bool.not_true] at n2
        rw [h2] at next
        simp only [ic90_6, obN, Pat.av, Pat.zero, items, wkA, Nat.reduceEqDiff, Nat.reduceAdd, Nat.reduceSub, Nat.reduceLeDiff, Nat.reduceLT, Nat.reduceBEq, Nat.reduceBNe, reduceCtorEq, e0]
        simp only [ic90_5, ic90_4, wkA, Nat.reduceEqDiff, Nat.reduceAdd, Nat.reduceSub, Nat.reduceLeDiff, Nat.reduceLT, Nat.reduceBEq, Nat.reduceBNe, reduceCtorEq, Int.toNat_natCast, n1, n2, w1]
        exact ⟨⟨by omega, by omega⟩, next rfl⟩
      | false =>
        rw [h2, Bool.not_false] at n2
        rw [h2, Bool.false_or] at next stop
        cases h3 : (body.getD i 0 == 44) with
        | true =>
          rw [h3, Bool.not_true] at n3
          rw [h3] at next
          simp only [ic90_6, obN, Pat.av, Pat.zero, items, wkA, Nat.reduceEqDiff, Nat.reduceAdd, Nat.reduceSub, Nat.reduceLeDiff, Nat.reduceLT, Nat.reduceBEq, Nat.reduceBNe, reduceCtorEq, e0]
          simp only [ic90_5, ic90_4, wkA, Nat.reduceEqDiff, Nat.reduceAdd, Nat.reduceSub, Nat.reduceLeDiff, Nat.reduceLT, Nat.reduceBEq, Nat.reduceBNe, reduceCtorEq, Int.toNat_natCast, n1, n2, n3, w1]
          exact ⟨⟨by omega, by omega⟩, next rfl⟩
        | false =>
          rw [h3, Bool.not_false] at n3
          rw [h3, Bool.false_or] at next stop
          cases h4 : (body.getD i 0 == 46) with
          | true =>
            rw [h4, Bool.not_true] at n4
            rw [h4] at next
            simp only [ic90_6, obN, Pat.av, Pat.zero, items, wkA, Nat.reduceEqDiff, Nat.reduceAdd, Nat.reduceSub, Nat.reduceLeDiff, Nat.reduceLT, Nat.reduceBEq, Nat.reduceBNe, reduceCtorEq, e0]
            simp only [ic90_5, ic90_4, wkA, Nat.reduceEqDiff, Nat.reduceAdd, Nat.reduceSub, Nat.reduceLeDiff, Nat.reduceLT, Nat.reduceBEq, Nat.reduceBNe, reduceCtorEq, Int.toNat_natCast, n1, n2, n3, n4, w1]
            exact ⟨⟨by omega, by omega⟩, next rfl⟩
          | false =>
            rw [h4, Bool.not_false] at n4
            rw [h4, Bool.false_or] at next stop
            by_cases h5 : (body.getD i 0).toNat < 48
            · have e5 : decide ((((body.getD i 0).toNat : Nat) : Int) < 48) = true := decide_eq_true (by omega)
              have hd : isDg (body.getD i 0) = false := by
                cases h : isDg (body.getD i 0) with
                | false => rfl
                | true => have := isDg_iff.1 h; omega
              rw [stop hd]
              simp only [ic90_6, obN, Pat.av, Pat.zero, items, wkA, Nat.reduceEqDiff, Nat.reduceAdd, Nat.reduceSub, Nat.reduceLeDiff, Nat.reduceLT, Nat.reduceBEq, Nat.reduceBNe, reduceCtorEq, e0]
              simp only [ic90_5, ic90_4, wkA, Nat.reduceEqDiff, Nat.reduceAdd, Nat.reduceSub, Nat.reduceLeDiff, Nat.reduceLT, Nat.reduceBEq, Nat.reduceBNe, reduceCtorEq, Int.toNat_natCast, n1, n2, n3, n4, e5]
              refine ⟨⟨by omega, by omega⟩, ?_⟩
              rfl
            · have e5 : decide ((((body.getD i 0).toNat : Nat) : Int) < 48) = false := decide_eq_false (by omega)
              by_cases h6 : 57 < (body.getD i 0).toNat
              · have e6 : decide ((((body.getD i 0).toNat : Nat) : Int) > 57) = true := decide_eq_true (by omega)
                have hd : isDg (body.getD i 0) = false := by
                  cases h : isDg (body.getD i 0) with
                  | false => rfl
                  | true => have := isDg_iff.1 h; omega
                rw [stop hd]
                simp only [ic90_6, obN, Pat.av, Pat.zero, items, wkA, Nat.reduceEqDiff, Nat.reduceAdd, Nat.reduceSub, Nat.reduceLeDiff, Nat.reduceLT, Nat.reduceBEq, Nat.reduceBNe, reduceCtorEq, e0]
                simp only [ic90_5, ic90_4, wkA, Nat.reduceEqDiff, Nat.reduceAdd, Nat.reduceSub, Nat.reduceLeDiff, Nat.reduceLT, Nat.reduceBEq, Nat.reduceBNe, reduceCtorEq, Int.toNat_natCast, n1, n2, n3, n4, e5, e6]
                refine ⟨⟨by omega, by omega⟩, ?_⟩
                rfl
              · have e6 : decide ((((body.getD i 0).toNat : Nat) : Int) > 57) = false := decide_eq_false (by omega)
                have hd : isDg (body.getD i 0) = true := isDg_iff.2 ⟨by omega, by omega⟩
                simp only [ic90_6, obN, Pat.av, Pat.zero, items, wkA, Nat.reduceEqDiff, Nat.reduceAdd, Nat.reduceSub, Nat.reduceLeDiff, Nat.reduceLT, Nat.reduceBEq, Nat.reduceBNe, reduceCtorEq, e0]
                simp only [ic90_5, ic90_4, wkA, Nat.reduceEqDiff, Nat.reduceAdd, Nat.reduceSub, Nat.reduceLeDiff, Nat.reduceLT, Nat.reduceBEq, Nat.reduceBNe, reduceCtorEq, Int.toNat_natCast, n1, n2, n3, n4, e5, e6, w1]
                exact ⟨⟨by omega, by omega⟩, next hd⟩
  · have e0 : decide ((i : Int) < (body.length : Int)) = false := decide_eq_false (by omega)
    have hd : body.drop i = [] := List.drop_of_length_le (by omega)
    rw [hd] at hall
    have hres : bodN p body = fraN p (cutS body 46).1 (cutS body 46).2.1 (cutS body 46).2.2 := by rw [bodN, if_neg (by rw [hall]; simp)]
    rw [hres]
    have f := fun ex => seg37 p body ex hb hsig hp0
    simp only [obN, Pat.av, Pat.zero, items, wkA, Nat.reduceEqDiff, Nat.reduceAdd, Nat.reduceSub, Nat.reduceLeDiff, Nat.reduceLT, Nat.reduceBEq, Nat.reduceBNe, reduceCtorEq] at f
    simp only [ic90_6, obN, Pat.av, Pat.zero, items, wkA, Nat.reduceEqDiff, Nat.reduceAdd, Nat.reduceSub, Nat.reduceLeDiff, Nat.reduceLT, Nat.reduceBEq, Nat.reduceBNe, reduceCtorEq, e0]
    exact f _
theorem seg38b (p : Pat) (body e6 : List UInt8) (ex : List (Nat × AV)) (hb : body.length < 400000) (hsig : p.minSig = 0) (hp0 : p.prim = 0 ∧ p.sec = 0) :
    VC e0 ic90_38 (qN (bodN p body)) ⟨(2, .box 2 0) :: (4, .box 4 0) :: (5, .str body) :: (6, .str e6) :: (7, .bool p.sci) :: ex, obN p⟩ := by
  simp only [ic90_38, obN, Pat.av, Pat.zero, items, wkA, Nat.reduceEqDiff, Nat.reduceAdd, Nat.reduceSub, Nat.reduceLeDiff, Nat.reduceLT, Nat.reduceBEq, Nat.reduceBNe, reduceCtorEq]
  refine ⟨I6 p body, body.length, _, Gh.refl _, ⟨0, rfl, by omega, rfl, by simp⟩, ?_⟩
  rintro j st ⟨i, rfl, hi, rfl, hall⟩
  by_cases hlt : i < body.length
  · have e0 : decide ((i : Int) < (body.length : Int)) = true := decide_eq_true (by omega)
    have w1 : IntKind.i64.wrap ((i : Int) + 1) = ((i + 1 : Nat) : Int) := by rw [wrap64] <;> omega
    rw [drop_get hlt, List.all_cons] at hall
    have n1 := neq8 (body.getD i 0) 35
    have n2 := neq8 (body.getD i 0) 64
    have n3 := neq8 (body.getD i 0) 44
    have n4 := neq8 (body.getD i 0) 46
    have h35 : (((35 : UInt8).toNat : Nat) : Int) = 35 := rfl
    have h64 : (((64 : UInt8).toNat : Nat) : Int) = 64 := rfl
    have h44 : (((44 : UInt8).toNat : Nat) : Int) = 44 := rfl
    have h46 : (((46 : UInt8).toNat : Nat) : Int) = 46 := rfl
    rw [h35] at n1; rw [h64] at n2; rw [h44] at n3; rw [h46] at n4
    have next : okCh (body.getD i 0) = true → backQ (I6 p body) (body.length - i) ⟨[(2, .box 2 0), (4, .box 4 0), (5, .str body), (7, .bool p.sci), (8, i64 ((i + 1 : Nat) : Int))], obN p⟩ := by
      intro h
      rw [h, Bool.true_and] at hall
      exact ⟨_, body.length - (i + 1), Gh.refl _, by omega, i + 1, rfl, by omega, rfl, hall⟩
    have stop : okCh (body.getD i 0) = false → bodN p body = .error 4 := by
      intro h
      rw [h, Bool.false_and] at hall
      rw [bodN, if_pos hall]
    unfold okCh at next stop
    simp only [obN, Pat.av, Pat.zero, items, wkA, Nat.reduceEqDiff, Nat.reduceAdd, Nat.reduceSub, Nat.reduceLeDiff, Nat.reduceLT, Nat.reduceBEq, Nat.reduceBNe, reduceCtorEq] at next
    cases h1 : (body.getD i 0 == 35) with
    | true =>
      rw [h1, Bool.not_true] at n1
      rw [h1] at next
      simp only [ic90_6, obN, Pat.av, Pat.zero, items, wkA, Nat.reduceEqDiff, Nat.reduceAdd, Nat.reduceSub, Nat.reduceLeDiff, Nat.reduceLT, Nat.reduceBEq, Nat.reduceBNe, reduceCtorEq, e0]
      simp only [ic90_5, ic90_4, wkA, Nat.reduceEqDiff, Nat.reduceAdd, Nat.reduceSub, Nat.reduceLeDiff, Nat.reduceLT, Nat.reduceBEq, Nat.reduceBNe, reduceCtorEq, Int.toNat_natCast, n1, w1]
      exact ⟨⟨by omega, by omega⟩, next rfl⟩
    | false =>
      rw [h1, Bool.not_false] at n1
      rw [h1, Bool.false_or] at next stop
      cases h2 : (body.getD i 0 == 64) with
      | true =>
        rw [h2, Bool.not_true] at n2
        rw [h2] at next
        simp only [ic90_6, obN, Pat.av, Pat.zero, items, wkA, Nat.reduceEqDiff, Nat.reduceAdd, Nat.reduceSub, Nat.reduceLeDiff, Nat.reduceLT, Nat.reduceBEq, Nat.reduceBNe, reduceCtorEq, e0]
        simp only [ic90_5, ic90_4, wkA, Nat.reduceEqDiff, Nat.reduceAdd, Nat.reduceSub, Nat.reduceLeDiff, Nat.reduceLT, Nat.reduceBEq, Nat.reduceBNe, reduceCtorEq, Int.toNat_natCast, n1, n2, w1]
        exact ⟨⟨by omega, by omega⟩, next rfl⟩
      | false =>
        rw [h2, Bool.not_false] at n2
        rw [h2, Bool.false_or] at next stop
        cases h3 : (body.getD i 0 == 44) with
        | true =>
          rw [h3, Bool.not_true] at n3
          rw [h3] at next
          simp only [ic90_6, obN, Pat.av, Pat.zero, items, wkA, Nat.reduceEqDiff, Nat.reduceAdd, Nat.reduceSub, Nat.reduceLeDiff, Nat.reduceLT, Nat.reduceBEq, Nat.reduceBNe, reduceCtorEq, e0]
          simp only [ic90_5, ic90_4, wkA, Nat.reduceEqDiff, Nat.reduceAdd, Nat.reduceSub, Nat.reduceLeDiff, Nat.reduceLT, Nat.reduceBEq, Nat.reduceBNe, reduceCtorEq, Int.toNat_natCast, n1, n2, n3, w1]
          exact ⟨⟨by omega, by omega⟩, next rfl⟩
        | false =>
          rw [h3, Bool.not_false] at n3
          rw [h3, Bool.false_or] at next stop
          cases h4 : (body.getD i 0 == 46) with
          | true =>
            rw [h4, Bool.not_true] at n4
            rw [h4] at next
            simp only [ic90_6, obN, Pat.av, Pat.zero, items, wkA, Nat.reduceEqDiff, Nat.reduceAdd, Nat.reduceSub, Nat.reduceLeDiff, Nat.reduceLT, Nat.reduceBEq, Nat.reduceBNe, reduceCtorEq, e0]
            simp only [ic90_5, ic90_4, wkA, Nat.reduceEqDiff, Nat.reduceAdd, Nat.reduceSub, Nat.reduceLeDiff, Nat.reduceLT, Nat.reduceBEq, Nat.reduceBNe, reduceCtorEq, Int.toNat_natCast, n1, n2, n3, n4, w1]
            exact ⟨⟨by omega, by omega⟩, next rfl⟩
          | false =>
            rw [h4, Bool.not_false] at n4
            rw [h4, Bool.false_or] at next stop
            by_cases h5 : (body.getD i 0).toNat < 48
            · have e5 : decide ((((body.getD i 0).toNat : Nat) : Int) < 48) = true := decide_eq_true (by omega)
              have hd : isDg (body.getD i 0) = false := by
                cases h : isDg (body.getD i 0) with
                | false => rfl
                | true => have := isDg_iff.1 h; omega
              rw [stop hd]
              simp only [ic90_6, obN, Pat.av, Pat.zero, items, wkA, Nat.reduceEqDiff, Nat.reduceAdd, Nat.reduceSub, Nat.reduceLeDiff, Nat.reduceLT, Nat.reduceBEq, Nat.reduceBNe, reduceCtorEq, e0]
              simp only [ic90_5, ic90_4, wkA, Nat.reduceEqDiff, Nat.reduceAdd, Nat.reduceSub, Nat.reduceLeDiff, Nat.reduceLT, Nat.reduceBEq, Nat.reduceBNe, reduceCtorEq, Int.toNat_natCast, n1, n2, n3, n4, e5]
              refine ⟨⟨by omega, by omega⟩, ?_⟩
              rfl
            · have e5 : decide ((((body.getD i 0).toNat : Nat) : Int) < 48) = false := decide_eq_false (by omega)
              by_cases h6 : 57 < (body.getD i 0).toNat
              · have e6 : decide ((((body.getD i 0).toNat : Nat) : Int) > 57) = true := decide_eq_true (by omega)
                have hd : isDg (body.getD i 0) = false := by
                  cases h : isDg (body.getD i 0) with
                  | false => rfl
                  | true => have := isDg_iff.1 h; omega
                rw [stop hd]
                simp only [ic90_6, obN, Pat.av, Pat.zero, items, wkA, Nat.reduceEqDiff, Nat.reduceAdd, Nat.reduceSub, Nat.reduceLeDiff, Nat.reduceLT, Nat.reduceBEq, Nat.reduceBNe, reduceCtorEq, e0]
                simp only [ic90_5, ic90_4, wkA, Nat.reduceEqDiff, Nat.reduceAdd, Nat.reduceSub, Nat.reduceLeDiff, Nat.reduceLT, Nat.reduceBEq, Nat.reduceBNe, reduceCtorEq, Int.toNat_natCast, n1, n2, n3, n4, e5, e6]
                refine ⟨⟨by omega, by omega⟩, ?_⟩
                rfl
              · have e6 : decide ((((body.getD i 0).toNat : Nat) : Int) > 57) = false := decide_eq_false (by omega)
                have hd : isDg (body.getD i 0) = true := isDg_iff.2 ⟨by omega, by omega⟩
                simp only [ic90_6, obN, Pat.av, Pat.zero, items, wkA, Nat.reduceEqDiff, Nat.reduceAdd, Nat.reduceSub, Nat.reduceLeDiff, Nat.reduceLT, Nat.reduceBEq, Nat.reduceBNe, reduceCtorEq, e0]
                simp only [ic90_5, ic90_4, wkA, Nat.reduceEqDiff, Nat.reduceAdd, Nat.reduceSub, Nat.reduceLeDiff, Nat.reduceLT, Nat.reduceBEq, Nat.reduceBNe, reduceCtorEq, Int.toNat_natCast, n1, n2, n3, n4, e5, e6, w1]
                exact ⟨⟨by omega, by omega⟩, next hd⟩
  · have e0 : decide ((i : Int) < (body.length : Int)) = false := decide_eq_false (by omega)
    have hd : body.drop i = [] := List.drop_of_length_le (by omega)
    rw [hd] at hall
    have hres : bodN p body = fraN p (cutS body 46).1 (cutS body 46).2.1 (cutS body 46).2.2 := by rw [bodN, if_neg (by rw [hall]; simp)]
    rw [hres]
    have f := fun ex => seg37 p body ex hb hsig hp0
    simp only [obN, Pat.av, Pat.zero, items, wkA, Nat.reduceEqDiff, Nat.reduceAdd, Nat.reduceSub, Nat.reduceLeDiff, Nat.reduceLT, Nat.reduceBEq, Nat.reduceBNe, reduceCtorEq] at f
    simp only [ic90_6, obN, Pat.av, Pat.zero, items, wkA, Nat.reduceEqDiff, Nat.reduceAdd, Nat.reduceSub, Nat.reduceLeDiff, Nat.reduceLT, Nat.reduceBEq, Nat.reduceBNe, reduceCtorEq, e0]
    exact f _
theorem seg3 (plus : Bool) (e body : List UInt8) (ex : List (Nat × AV)) (hb : body.length < 400000) (he : e.length < 400000) :
    VC e0 ic90_3 (thenQ (VC e0 ic90_38 (qN (ex3N plus e body))) (qN (ex3N plus e body))) ⟨(2, .box 2 0) :: (4, .box 4 0) :: (5, .str body) :: (6, .str e) :: (7, .bool true) :: ex, obN { Pat.zero with plusExp := plus }⟩ := by
  have c117 := con117 e (by omega)
  have e1 : (e == []) = decide (e = []) := strBeq _ _
  have e2 : (strip e != []) = decide (strip e ≠ []) := by rw [Bool.eq_iff_iff, bne_iff_ne, decide_eq_true_eq]
  unfold ex3N
  by_cases h1 : e = []
  · rw [decide_eq_true h1] at e1
    rw [if_pos (.inl h1)]
    simp only [ic90_3, obN, Pat.av, Pat.zero, items, wkA, Nat.reduceEqDiff, Nat.reduceAdd, Nat.reduceSub, Nat.reduceLeDiff, Nat.reduceLT, Nat.reduceBEq, Nat.reduceBNe, reduceCtorEq, e1]
    rfl
  · rw [decide_eq_false h1] at e1
    by_cases h2 : strip e ≠ []
    · rw [decide_eq_true h2] at e2
      rw [if_pos (.inr h2)]
      simp only [ic90_3, obN, Pat.av, Pat.zero, items, wkA, Nat.reduceEqDiff, Nat.reduceAdd, Nat.reduceSub, Nat.reduceLeDiff, Nat.reduceLT, Nat.reduceBEq, Nat.reduceBNe, reduceCtorEq, e1]
      refine callF c117 rfl ?_
      simp only [wkA, Nat.reduceEqDiff, Nat.reduceAdd, Nat.reduceSub, Nat.reduceLeDiff, Nat.reduceLT, Nat.reduceBEq, Nat.reduceBNe, reduceCtorEq, e2]
      rfl
    · rw [decide_eq_false h2] at e2
      rw [if_neg (by rintro (h | h); · exact h1 h
                     · exact h2 h)]
      by_cases h3 : 9 < e.length
      · have e3 : decide (((e.length : Nat) : Int) > 9) = true := decide_eq_true (by omega)
        rw [if_pos h3]
        simp only [ic90_3, obN, Pat.av, Pat.zero, items, wkA, Nat.reduceEqDiff, Nat.reduceAdd, Nat.reduceSub, Nat.reduceLeDiff, Nat.reduceLT, Nat.reduceBEq, Nat.reduceBNe, reduceCtorEq, e1]
        refine callF c117 rfl ?_
        simp only [wkA, Nat.reduceEqDiff, Nat.reduceAdd, Nat.reduceSub, Nat.reduceLeDiff, Nat.reduceLT, Nat.reduceBEq, Nat.reduceBNe, reduceCtorEq, e2]
        simp only [ic90_2, wkA, Nat.reduceEqDiff, Nat.reduceAdd, Nat.reduceSub, Nat.reduceLeDiff, Nat.reduceLT, Nat.reduceBEq, Nat.reduceBNe, reduceCtorEq, e3]
        rfl
      · have e3 : decide (((e.length : Nat) : Int) > 9) = false := decide_eq_false (by omega)
        rw [if_neg h3]
        have f := fun ex => seg38 { Pat.zero with plusExp := plus, sci := true, minExp := e.length } body ex hb rfl ⟨rfl, rfl⟩
        simp only [obN, Pat.av, Pat.zero, items, wkA, Nat.reduceEqDiff, Nat.reduceAdd, Nat.reduceSub, Nat.reduceLeDiff, Nat.reduceLT, Nat.reduceBEq, Nat.reduceBNe, reduceCtorEq] at f
        simp only [ic90_3, obN, Pat.av, Pat.zero, items, wkA, Nat.reduceEqDiff, Nat.reduceAdd, Nat.reduceSub, Nat.reduceLeDiff, Nat.reduceLT, Nat.reduceBEq, Nat.reduceBNe, reduceCtorEq, e1]
        refine callF c117 rfl ?_
        simp only [wkA, Nat.reduceEqDiff, Nat.reduceAdd, Nat.reduceSub, Nat.reduceLeDiff, Nat.reduceLT, Nat.reduceBEq, Nat.reduceBNe, reduceCtorEq, e2]
        simp only [ic90_2, wkA, Nat.reduceEqDiff, Nat.reduceAdd, Nat.reduceSub, Nat.reduceLeDiff, Nat.reduceLT, Nat.reduceBEq, Nat.reduceBNe, reduceCtorEq, e3]
        simp only [ic90_1, wkA, Nat.reduceEqDiff, Nat.reduceAdd, Nat.reduceSub, Nat.reduceLeDiff, Nat.reduceLT, Nat.reduceBEq, Nat.reduceBNe, reduceCtorEq]
        exact f _
theorem con90N {s : List UInt8} (hl : s.length < 400000) : Fn 90 [.str s] (resN (numN s)) := by
  have c1 := con116 s 69 (by omega)
  have h69 : (((69 : UInt8).toNat : Nat) : Int) = 69 := rfl
  rw [h69] at c1
  have hlen := cutS_len s 69
  unfold numN
  generalize (cutS s 69).1 = body at *
  generalize (cutS s 69).2.1 = e at *
  generalize (cutS s 69).2.2 = sci at *
  refine e90 (by simp) ?_
  cases sci with
  | false =>
    rw [if_neg (by simp)]
    have f := fun ex => seg38b Pat.zero body e ex (by omega) rfl ⟨rfl, rfl⟩
    simp only [obN, Pat.av, Pat.zero, items, wkA, Nat.reduceEqDiff, Nat.reduceAdd, Nat.reduceSub, Nat.reduceLeDiff, Nat.reduceLT, Nat.reduceBEq, Nat.reduceBNe, reduceCtorEq] at f
    simp only [ic90, wkA, Nat.reduceEqDiff, Nat.reduceAdd, Nat.reduceSub, Nat.reduceLeDiff, Nat.reduceLT, Nat.reduceBEq, Nat.reduceBNe, reduceCtorEq]
    refine callF c1 rfl ?_
    simp only [wkA, Nat.reduceEqDiff, Nat.reduceAdd, Nat.reduceSub, Nat.reduceLeDiff, Nat.reduceLT, Nat.reduceBEq, Nat.reduceBNe, reduceCtorEq]
    exact f _
  | true =>
    rw [if_pos rfl]
    cases e with
    | nil =>
      rw [if_neg (by simp)]
      have e0' : decide (((0 : Nat) : Int) > 0) = false := rfl
      have f := fun ex => seg3 false [] body ex (by omega) (by simp)
      simp only [obN, Pat.av, Pat.zero, items, wkA, Nat.reduceEqDiff, Nat.reduceAdd, Nat.reduceSub, Nat.reduceLeDiff, Nat.reduceLT, Nat.reduceBEq, Nat.reduceBNe, reduceCtorEq] at f
      simp only [ic90, wkA, Nat.reduceEqDiff, Nat.reduceAdd, Nat.reduceSub, Nat.reduceLeDiff, Nat.reduceLT, Nat.reduceBEq, Nat.reduceBNe, reduceCtorEq]
      refine callF c1 rfl ?_
      simp only [wkA, Nat.reduceEqDiff, Nat.reduceAdd, Nat.reduceSub, Nat.reduceLeDiff, Nat.reduceLT, Nat.reduceBEq, Nat.reduceBNe, reduceCtorEq, e0']
      exact f _
    | cons c t =>
      have e0' : decide (((t.length + 1 : Nat) : Int) > 0) = true := decide_eq_true (by omega)
      have hc := beq8 c 43
      have h43 : (((43 : UInt8).toNat : Nat) : Int) = 43 := rfl
      have g0 : (c :: t).getD 0 0 = c := rfl
      rw [h43] at hc
      have htk : ((c :: t).drop 1).take (t.length + 1 - 1) = t := by simp
      have hl2 : (c :: t).length = t.length + 1 := rfl
      cases h1 : (c == 43) with
      | true =>
        rw [h1] at hc
        rw [if_pos (by simpa using h1)]
        have f := fun ex => seg3 true t body ex (by omega) (by simp at hlen; omega)
        simp only [obN, Pat.av, Pat.zero, items, wkA, Nat.reduceEqDiff, Nat.reduceAdd, Nat.reduceSub, Nat.reduceLeDiff, Nat.reduceLT, Nat.reduceBEq, Nat.reduceBNe, reduceCtorEq] at f
        simp only [ic90, wkA, Nat.reduceEqDiff, Nat.reduceAdd, Nat.reduceSub, Nat.reduceLeDiff, Nat.reduceLT, Nat.reduceBEq, Nat.reduceBNe, reduceCtorEq]
        refine callF c1 rfl ?_
        simp only [wkA, Nat.reduceEqDiff, Nat.reduceAdd, Nat.reduceSub, Nat.reduceLeDiff, Nat.reduceLT, Nat.reduceBEq, Nat.reduceBNe, reduceCtorEq, e0', Int.toNat_zero, g0, hc]
        have htk2 : List.take (((t.length + 1 : Nat) : Int).toNat - Int.toNat 1) (List.drop (Int.toNat 1) (c :: t)) = t := by simp
        rw [htk2]
        exact ⟨by omega, ⟨by omega, by omega, by omega⟩, f _⟩
      | false =>
        rw [h1] at hc
        rw [if_neg (by simpa using h1)]
        have f := fun ex => seg3 false (c :: t) body ex (by omega) (by simp at hlen ⊢; omega)
        simp only [obN, Pat.av, Pat.zero, items, wkA, Nat.reduceEqDiff, Nat.reduceAdd, Nat.reduceSub, Nat.reduceLeDiff, Nat.reduceLT, Nat.reduceBEq, Nat.reduceBNe, reduceCtorEq] at f
        simp only [ic90, wkA, Nat.reduceEqDiff, Nat.reduceAdd, Nat.reduceSub, Nat.reduceLeDiff, Nat.reduceLT, Nat.reduceBEq, Nat.reduceBNe, reduceCtorEq]
        refine callF c1 rfl ?_
        simp only [wkA, Nat.reduceEqDiff, Nat.reduceAdd, Nat.reduceSub, Nat.reduceLeDiff, Nat.reduceLT, Nat.reduceBEq, Nat.reduceBNe, reduceCtorEq, e0', Int.toNat_zero, g0, hc]
        exact ⟨by omega, f _⟩
theorem con90 {s : List UInt8} (hl : s.length < 400000) : Fn 90 [.str s] (resN (numberS s)) := con90N hl
def Hlf.av (h : Hlf) : AV := .agg ([items h.pre, items h.suf] ++ avCells h.p.av ++ [i64 h.at_, i32 h.pad, i64 h.long])
def Hlf.zero : Hlf := ⟨[], [], Pat.zero, 0, 0, 0⟩
def resH (r : Except Flt Hlf) : AV := match r with
  | .error f => .tup [Hlf.zero.av, f.av]
  | .ok h => .tup [h.av, (Flt.mk 0 0).av]
abbrev qH (r : Except Flt Hlf) : Exit → St → Prop := retQ [(6, some (some 25)), (7, some (some 2))] (resH r)
def obH (a : Nat) (pad : Int) : List (Nat × Ob) := [(6, .box 76 (avCells Hlf.zero.av)), (7, .box 52 [i64 0, i64 0]), (10, .box 76 (avCells (Hlf.av ⟨[], [], Pat.zero, a, pad, 0⟩)))]
theorem seg57_18 (a : Nat) (pad : Int) (x y : List (Int × Int)) (p : Pat) (s : List UInt8) (ex : List (Nat × AV)) (oex : List (Nat × Ob)) :
    VC e0 ic57_18 (qH (.ok ⟨x, y, p, a, pad, s.length⟩)) ⟨(6, .box 6 0) :: (7, .box 7 0) :: (10, .box 10 0) :: (16, .str s) :: (18, items x) :: (19, .box 19 0) :: (20, .box 20 0) :: (22, items y) :: ex, obH a pad ++ (19, .box 52 [i64 0, i64 0]) :: (20, .box 26 (avCells p.av)) :: oex⟩ := by
  simp only [ic57_18, obH, Hlf.av, Hlf.zero, Pat.av, Pat.zero, items, wkA, Nat.reduceEqDiff, Nat.reduceAdd, Nat.reduceSub, Nat.reduceLeDiff, Nat.reduceLT, Nat.reduceBEq, Nat.reduceBNe, reduceCtorEq]
  rfl
def sufH (a : Nat) (pad : Int) (x : List (Int × Int)) (p : Pat) (s : List UInt8) (toks : List Tok) : Except Flt Hlf := match itemsT toks with
  | .error f => .error f
  | .ok y => .ok ⟨x, y, p, a, pad, s.length⟩
theorem itemsT_err {l : List Tok} {f : Flt} (h : itemsT l = .error f) : f.e ≠ 0 := by
  have hS : ∀ (l : List Tok) (f : Flt), itemsS l = .error f → f.e = 4 := by
    intro l
    induction l with
    | nil => intro f h; simp [itemsS] at h
    | cons t l ih =>
      intro f h
      rw [itemsS_cons] at h
      split at h
      · injection h with h; subst h; rfl
      · split at h
        · rename_i g hg
          injection h with h; subst h
          exact ih _ hg
        · cases h
  unfold itemsT at h
  split at h
  · rename_i g hg
    injection h with h; subst h
    rw [hS _ _ hg]; decide
  · split at h
    · injection h with h; subst h; decide
    · cases h
theorem seg57_19 (a : Nat) (pad : Int) (x : List (Int × Int)) (p : Pat) (s : List UInt8) (toks : List Tok) (ex : List (Nat × AV)) (hl : toks.length < 1000000) (v0 v8 : AV) :
    VC e0 ic57_19 (qH (sufH a pad x p s toks)) ⟨(0, v0) :: (6, .box 6 0) :: (7, .box 7 0) :: (8, v8) :: (10, .box 10 0) :: (15, .own 199) :: (16, .str s) :: (18, items x) :: (19, .box 19 0) :: (20, .box 20 0) :: ex, obH a pad ++ [(19, .box 52 [i64 0, i64 0]), (20, .box 26 (avCells p.av)), (199, .row 71 3 (toks.map Tok.av))]⟩ := by
  have c89 := con89 hl
  unfold itemsA at c89
  unfold sufH
  cases hi : itemsT toks with
  | error f =>
    rw [hi] at c89
    have hf := itemsT_err hi
    have e1 : (f.e != 0) = true := by rw [bne_iff_ne]; exact hf
    simp only [Flt.av] at c89
    change VC e0 ic57_19 (qH (.error f)) _
    simp only [ic57_19, obH, Hlf.av, Hlf.zero, Pat.av, Pat.zero, items, wkA, Nat.reduceEqDiff, Nat.reduceAdd, Nat.reduceSub, Nat.reduceLeDiff, Nat.reduceLT, Nat.reduceBEq, Nat.reduceBNe, reduceCtorEq]
    refine callF c89 rfl ?_
    simp only [wkA, Nat.reduceEqDiff, Nat.reduceAdd, Nat.reduceSub, Nat.reduceLeDiff, Nat.reduceLT, Nat.reduceBEq, Nat.reduceBNe, reduceCtorEq, e1]
    rfl
  | ok y =>
    rw [hi] at c89
    have e1 : ((0 : Int) != 0) = false := rfl
    simp only [Flt.av, items] at c89
    change VC e0 ic57_19 (qH (.ok ⟨x, y, p, a, pad, s.length⟩)) _
    have f := fun ex oex => seg57_18 a pad x y p s ex oex
    simp only [obH, Hlf.av, Hlf.zero, Pat.av, Pat.zero, items, wkA, Nat.reduceEqDiff, Nat.reduceAdd, Nat.reduceSub, Nat.reduceLeDiff, Nat.reduceLT, Nat.reduceBEq, Nat.reduceBNe, reduceCtorEq] at f
    simp only [ic57_19, obH, Hlf.av, Hlf.zero, Pat.av, Pat.zero, items, wkA, Nat.reduceEqDiff, Nat.reduceAdd, Nat.reduceSub, Nat.reduceLeDiff, Nat.reduceLT, Nat.reduceBEq, Nat.reduceBNe, reduceCtorEq]
    refine callF c89 rfl ?_
    simp only [wkA, Nat.reduceEqDiff, Nat.reduceAdd, Nat.reduceSub, Nat.reduceLeDiff, Nat.reduceLT, Nat.reduceBEq, Nat.reduceBNe, reduceCtorEq, e1]
    exact f _ _
theorem longN_err {p : Pat} {e : Int} (h : longN p = .error e) : e ≠ 0 := by
  unfold longN at h
  split at h
  · injection h with h; subst h; decide
  · cases h
theorem mixN_err {p : Pat} {sizes : List Nat} {plain : List UInt8} {e : Int} (h : mixN p sizes plain = .error e) : e ≠ 0 := by
  unfold mixN at h
  split at h
  · injection h with h; subst h; decide
  · exact longN_err h
theorem aftN_err {p : Pat} {sizes : List Nat} {plain d : List UInt8} {e : Int} (h : aftN p sizes plain d = .error e) : e ≠ 0 := by
  unfold aftN at h
  split at h
  · injection h with h; subst h; decide
  · exact mixN_err h
theorem choN_err {p : Pat} {sizes : List Nat} {plain fr all : List UInt8} {pt : Bool} {e : Int} (h : choN p sizes plain fr all pt = .error e) : e ≠ 0 := by
  unfold choN at h
  split at h
  · split at h
    · injection h with h; subst h; decide
    · split at h
      · injection h with h; subst h; decide
      · exact mixN_err h
  · split at h
    · injection h with h; subst h; decide
    · exact aftN_err h
theorem allN_err {p : Pat} {sizes : List Nat} {plain fr : List UInt8} {pt : Bool} {e : Int} (h : allN p sizes plain fr pt = .error e) : e ≠ 0 := by
  unfold allN at h
  split at h
  · injection h with h; subst h; decide
  · exact choN_err h
theorem sizN_err {p : Pat} {sizes : List Nat} {plain fr : List UInt8} {pt : Bool} {e : Int} (h : sizN p sizes plain fr pt = .error e) : e ≠ 0 := by
  unfold sizN at h
  split at h
  · injection h with h; subst h; decide
  · exact allN_err h
theorem fraN_err {p : Pat} {wh fr : List UInt8} {pt : Bool} {e : Int} (h : fraN p wh fr pt = .error e) : e ≠ 0 := by
  unfold fraN at h
  split at h
  · injection h with h; subst h; decide
  · split at h
    · injection h with h; subst h; decide
    · exact sizN_err h
theorem bodN_err {p : Pat} {body : List UInt8} {e : Int} (h : bodN p body = .error e) : e ≠ 0 := by
  unfold bodN at h
  split at h
  · injection h with h; subst h; decide
  · exact fraN_err h
theorem ex3N_err {b : Bool} {x body : List UInt8} {e : Int} (h : ex3N b x body = .error e) : e ≠ 0 := by
  unfold ex3N at h
  split at h
  · injection h with h; subst h; decide
  · split at h
    · injection h with h; subst h; decide
    · exact bodN_err h
theorem numberS_err {s : List UInt8} {e : Int} (h : numberS s = .error e) : e ≠ 0 := by
  unfold numberS numN at h
  split at h
  · split at h
    · exact ex3N_err h
    · exact ex3N_err h
  · exact bodN_err h
def elZ : El := ⟨⟨0, false, 0⟩, false⟩
theorem getEl {l : List El} {i : Nat} (h : i < l.length) : (l.map El.av).getD i .top = (l.getD i elZ).av := by
  simp [List.getD_eq_getElem?_getD, h]
def numH (a : Nat) (pad : Int) (x : List (Int × Int)) (s : List UInt8) (toks : List Tok) (l : List El) (n : Nat) : Except Flt Hlf := match numberS s with
  | .error e => .error ⟨e, (l.getD n elZ).t.at_⟩
  | .ok p => sufH a pad x p s toks
theorem seg57_20 (a : Nat) (pad : Int) (x : List (Int × Int)) (s : List UInt8) (toks : List Tok) (l : List El) (n : Nat) (ex : List (Nat × AV)) (hl : toks.length < 1000000) (hs : s.length < 400000) (hn : n < l.length) :
    VC e0 ic57_20 (qH (numH a pad x s toks l n)) ⟨(0, .sl 4 (l.map El.av)) :: (6, .box 6 0) :: (7, .box 7 0) :: (8, i64 n) :: (10, .box 10 0) :: (15, .own 199) :: (16, .str s) :: (18, items x) :: (19, .box 19 0) :: ex, obH a pad ++ [(19, .box 52 [i64 0, i64 0]), (199, .row 71 3 (toks.map Tok.av))]⟩ := by
  have c90 := con90 hs
  unfold numH
  have hg := getEl hn
  simp only [El.av] at hg
  cases hi : numberS s with
  | error e =>
    rw [hi] at c90
    have hf := numberS_err hi
    have e1 : (e != 0) = true := by rw [bne_iff_ne]; exact hf
    change VC e0 ic57_20 (qH (.error ⟨e, (l.getD n elZ).t.at_⟩)) _
    simp only [resN, Pat.av, Pat.zero, items, List.map_nil] at c90
    simp only [ic57_20, obH, Hlf.av, Hlf.zero, Pat.av, Pat.zero, items, wkA, Nat.reduceEqDiff, Nat.reduceAdd, Nat.reduceSub, Nat.reduceLeDiff, Nat.reduceLT, Nat.reduceBEq, Nat.reduceBNe, reduceCtorEq]
    refine callF c90 rfl ?_
    simp only [wkA, Nat.reduceEqDiff, Nat.reduceAdd, Nat.reduceSub, Nat.reduceLeDiff, Nat.reduceLT, Nat.reduceBEq, Nat.reduceBNe, reduceCtorEq, e1, Int.toNat_natCast, hg, List.length_map]
    refine ⟨⟨by omega, by omega⟩, ?_⟩
    rfl
  | ok p =>
    rw [hi] at c90
    have e1 : ((0 : Int) != 0) = false := rfl
    change VC e0 ic57_20 (qH (sufH a pad x p s toks)) _
    have f := fun ex => seg57_19 a pad x p s toks ex hl (.sl 4 (l.map El.av)) (i64 n)
    simp only [obH, Hlf.av, Hlf.zero, Pat.av, Pat.zero, items, wkA, Nat.reduceEqDiff, Nat.reduceAdd, Nat.reduceSub, Nat.reduceLeDiff, Nat.reduceLT, Nat.reduceBEq, Nat.reduceBNe, reduceCtorEq] at f
    simp only [resN, Pat.av, items] at c90
    simp only [ic57_20, obH, Hlf.av, Hlf.zero, Pat.av, Pat.zero, items, wkA, Nat.reduceEqDiff, Nat.reduceAdd, Nat.reduceSub, Nat.reduceLeDiff, Nat.reduceLT, Nat.reduceBEq, Nat.reduceBNe, reduceCtorEq]
    refine callF c90 rfl ?_
    simp only [wkA, Nat.reduceEqDiff, Nat.reduceAdd, Nat.reduceSub, Nat.reduceLeDiff, Nat.reduceLT, Nat.reduceBEq, Nat.reduceBNe, reduceCtorEq, e1]
    exact f _
def parH (a : Nat) (pad : Int) (s : List UInt8) (ta tb : List Tok) (l : List El) (n : Nat) : Except Flt Hlf := match itemsT ta with
  | .error f => .error f
  | .ok x => numH a pad x s tb l n
theorem seg57_21 (a : Nat) (pad : Int) (s : List UInt8) (ta tb : List Tok) (l : List El) (n : Nat) (v9 : AV) (ex : List (Nat × AV)) (hla : ta.length < 1000000) (hlb : tb.length < 1000000) (hs : s.length < 400000) (hn : n < l.length) :
    VC e0 ic57_21 (qH (parH a pad s ta tb l n)) ⟨(0, .sl 4 (l.map El.av)) :: (6, .box 6 0) :: (7, .box 7 0) :: (8, i64 n) :: (9, v9) :: (10, .box 10 0) :: (14, .own 178) :: (15, .own 199) :: (16, .str s) :: ex, obH a pad ++ [(178, .row 71 3 (ta.map Tok.av)), (199, .row 71 3 (tb.map Tok.av))]⟩ := by
  have c89 := con89 hla
  unfold itemsA at c89
  unfold parH
  cases hi : itemsT ta with
  | error f =>
    rw [hi] at c89
    have hf := itemsT_err hi
    have e1 : (f.e != 0) = true := by rw [bne_iff_ne]; exact hf
    simp only [Flt.av] at c89
    change VC e0 ic57_21 (qH (.error f)) _
    simp only [ic57_21, obH, Hlf.av, Hlf.zero, Pat.av, Pat.zero, items, wkA, Nat.reduceEqDiff, Nat.reduceAdd, Nat.reduceSub, Nat.reduceLeDiff, Nat.reduceLT, Nat.reduceBEq, Nat.reduceBNe, reduceCtorEq]
    refine callF c89 rfl ?_
    simp only [wkA, Nat.reduceEqDiff, Nat.reduceAdd, Nat.reduceSub, Nat.reduceLeDiff, Nat.reduceLT, Nat.reduceBEq, Nat.reduceBNe, reduceCtorEq, e1]
    rfl
  | ok x =>
    rw [hi] at c89
    have e1 : ((0 : Int) != 0) = false := rfl
    simp only [Flt.av, items] at c89
    change VC e0 ic57_21 (qH (numH a pad x s tb l n)) _
    have f := fun ex => seg57_20 a pad x s tb l n ex hlb hs hn
    simp only [obH, Hlf.av, Hlf.zero, Pat.av, Pat.zero, items, wkA, Nat.reduceEqDiff, Nat.reduceAdd, Nat.reduceSub, Nat.reduceLeDiff, Nat.reduceLT, Nat.reduceBEq, Nat.reduceBNe, reduceCtorEq] at f
    simp only [ic57_21, obH, Hlf.av, Hlf.zero, Pat.av, Pat.zero, items, wkA, Nat.reduceEqDiff, Nat.reduceAdd, Nat.reduceSub, Nat.reduceLeDiff, Nat.reduceLT, Nat.reduceBEq, Nat.reduceBNe, reduceCtorEq]
    refine callF c89 rfl ?_
    simp only [wkA, Nat.reduceEqDiff, Nat.reduceAdd, Nat.reduceSub, Nat.reduceLeDiff, Nat.reduceLT, Nat.reduceBEq, Nat.reduceBNe, reduceCtorEq, e1]
    exact f _
theorem toksS_snoc (xs : List El) (e : El) : toksS (xs ++ [e]) = toksS xs ++ (if e.pad = true then [] else [e.t]) := by
  unfold toksS
  rw [List.filter_append, List.map_append]
  congr 1
  cases h : e.pad <;> simp [h]
theorem textS_snoc (xs : List El) (e : El) : textS (xs ++ [e]) = textS xs ++ (if e.pad = true then [] else bytesS e.t.r.toNat) := by
  unfold textS
  rw [toksS_snoc, List.flatMap_append]
  congr 1
  cases h : e.pad <;> simp
theorem toksS_len (xs : List El) : (toksS xs).length ≤ xs.length := by
  unfold toksS; rw [List.length_map]; exact List.length_filter_le _ _
theorem bytesS_len (n : Nat) : (bytesS n).length ≤ 4 := by
  unfold bytesS; repeat' split
  all_goals simp
theorem textS_len (xs : List El) : (textS xs).length ≤ 4 * xs.length := by
  induction xs with
  | nil => simp [textS, toksS]
  | cons e xs ih =>
    have hb := bytesS_len e.t.r.toNat
    have : textS (e :: xs) = (if e.pad = true then [] else bytesS e.t.r.toNat) ++ textS xs := by
      unfold textS toksS
      cases h : e.pad <;> simp [h]
    rw [this, List.length_append, List.length_cons]
    split
    · simp; omega
    · omega
theorem take_snocE {l : List El} {i : Nat} (h : i < l.length) : l.take (i + 1) = l.take i ++ [l.getD i elZ] := by
  rw [List.take_add_one]; simp [List.getD_eq_getElem?_getD, h]
def A17 (l : List El) (n i : Nat) : List Tok := toksS ((l.take i).take n)
def S17 (l : List El) (n fin i : Nat) : List UInt8 := textS (((l.take i).take fin).drop n)
def B17 (l : List El) (fin i : Nat) : List Tok := toksS ((l.take i).drop fin)
theorem A17_step {l : List El} {n i : Nat} (h : i < l.length) : A17 l n (i + 1) = A17 l n i ++ (if (l.getD i elZ).pad = false ∧ i < n then [(l.getD i elZ).t] else []) := by
  unfold A17
  rw [take_snocE h, List.take_append, List.length_take, Nat.min_eq_left (by omega)]
  by_cases h1 : i < n
  · rw [show n - i = (n - i - 1) + 1 by omega, List.take_succ_cons, List.take_nil, toksS_snoc]
    cases h2 : (l.getD i elZ).pad <;> simp [h1]
  · rw [show n - i = 0 by omega, List.take_zero, List.append_nil, if_neg (fun h => h1 h.2), List.append_nil]
theorem B17_step {l : List El} {fin i : Nat} (h : i < l.length) : B17 l fin (i + 1) = B17 l fin i ++ (if (l.getD i elZ).pad = false ∧ fin ≤ i then [(l.getD i elZ).t] else []) := by
  unfold B17
  rw [take_snocE h, List.drop_append, List.length_take, Nat.min_eq_left (by omega)]
  by_cases h1 : fin ≤ i
  · rw [show fin - i = 0 by omega, List.drop_zero, toksS_snoc]
    cases h2 : (l.getD i elZ).pad <;> simp [h1]
  · rw [show fin - i = (fin - i - 1) + 1 by omega, List.drop_succ_cons, List.drop_nil, List.append_nil, if_neg (fun h => h1 h.2), List.append_nil]
theorem S17_step {l : List El} {n fin i : Nat} (h : i < l.length) (hf : n ≤ fin) : S17 l n fin (i + 1) = S17 l n fin i ++ (if (l.getD i elZ).pad = false ∧ n ≤ i ∧ i < fin then bytesS (l.getD i elZ).t.r.toNat else []) := by
  unfold S17
  rw [take_snocE h, List.take_append, List.length_take, Nat.min_eq_left (by omega)]
  by_cases h1 : i < fin
  · rw [show fin - i = (fin - i - 1) + 1 by omega, List.take_succ_cons, List.take_nil, List.drop_append, List.length_take, List.length_take, Nat.min_eq_left (show i ≤ l.length by omega), Nat.min_eq_right (by omega)]
    by_cases h2 : n ≤ i
    · rw [show n - i = 0 by omega, List.drop_zero, textS_snoc]
      cases h3 : (l.getD i elZ).pad <;> simp [h1, h2]
    · rw [show n - i = (n - i - 1) + 1 by omega, List.drop_succ_cons, List.drop_nil, List.append_nil, if_neg (fun h => h2 h.2.1), List.append_nil]
  · rw [show fin - i = 0 by omega, List.take_zero, List.append_nil, if_neg (fun h => h1 h.2.2), List.append_nil]
def I17 (a : Nat) (pad : Int) (l : List El) (n fin : Nat) (j : Nat) (st : St) : Prop := ∃ i : Nat, j = l.length - i ∧ i ≤ l.length ∧
  st = ⟨[(0, .sl 4 (l.map El.av)), (6, .box 6 0), (7, .box 7 0), (8, i64 n), (9, i64 fin), (10, .box 10 0), (14, .own 178), (15, .own 199), (16, .str (S17 l n fin i)), (17, i64 i)], obH a pad ++ [(178, .row 71 3 ((A17 l n i).map Tok.av)), (199, .row 71 3 ((B17 l fin i).map Tok.av))]⟩
theorem seg57_22 (a : Nat) (pad : Int) (l : List El) (n fin : Nat) (v2 : AV) (ex : List (Nat × AV)) (hl : l.length < 90000) (hn : n < l.length) (hf : n ≤ fin ∧ fin ≤ l.length) (hr : ∀ e ∈ l, 0 ≤ e.t.r ∧ e.t.r < 2097152) :
    VC e0 ic57_22 (qH (parH a pad (textS ((l.take fin).drop n)) (toksS (l.take n)) (toksS (l.drop fin)) l n)) ⟨(0, .sl 4 (l.map El.av)) :: (2, v2) :: (6, .box 6 0) :: (7, .box 7 0) :: (8, i64 n) :: (9, i64 fin) :: (10, .box 10 0) :: ex, obH a pad⟩ := by
  simp only [ic57_22, obH, Hlf.av, Hlf.zero, Pat.av, Pat.zero, items, wkA, Nat.reduceEqDiff, Nat.reduceAdd, Nat.reduceSub, Nat.reduceLeDiff, Nat.reduceLT, Nat.reduceBEq, Nat.reduceBNe, reduceCtorEq]
  refine ⟨I17 a pad l n fin, l.length, ⟨[(0, .sl 4 (l.map El.av)), (6, .box 6 0), (7, .box 7 0), (8, i64 n), (9, i64 fin), (10, .box 10 0), (14, .own 178), (15, .own 199), (16, .str []), (17, i64 0)], obH a pad ++ [(178, .row 71 3 []), (199, .row 71 3 [])]⟩, ?_, ⟨0, rfl, by omega, by simp [A17, B17, S17, toksS, textS]⟩, ?_⟩
  · have h1 := Gh.own (s := ⟨[(0, .sl 4 (l.map El.av)), (6, .box 6 0), (7, .box 7 0), (8, i64 n), (9, i64 fin), (10, .box 10 0), (14, .nil), (15, .nil), (16, .str []), (17, i64 0)], obH a pad⟩) (t := 14) 71 3 178 rfl (by decide)
    have h2 := Gh.own (s := St.new ⟨[(0, .sl 4 (l.map El.av)), (6, .box 6 0), (7, .box 7 0), (8, i64 n), (9, i64 fin), (10, .box 10 0), (14, .nil), (15, .nil), (16, .str []), (17, i64 0)], obH a pad⟩ 14 178 (.row 71 3 []) (.own 178)) (t := 15) 71 3 199 rfl (by decide)
    refine Gh.trans ?_ (((h1.trans h2).trans (Gh.keep _ [0, 6, 7, 8, 9, 10, 14, 15, 16, 17] [6, 7, 10, 178, 199])).trans ?_)
    · simp only [obH, Hlf.av, Hlf.zero, Pat.av, Pat.zero, items, wkA, Nat.reduceEqDiff, Nat.reduceAdd, Nat.reduceSub, Nat.reduceLeDiff, Nat.reduceLT, Nat.reduceBEq, Nat.reduceBNe, reduceCtorEq]
      exact Gh.refl _
    · simp only [obH, Hlf.av, Hlf.zero, Pat.av, Pat.zero, items, wkA, Nat.reduceEqDiff, Nat.reduceAdd, Nat.reduceSub, Nat.reduceLeDiff, Nat.reduceLT, Nat.reduceBEq, Nat.reduceBNe, reduceCtorEq]
      exact Gh.refl _
  · rintro j st ⟨i, rfl, hi, rfl⟩
    by_cases hlt : i < l.length
    · have e0 : decide ((i : Int) < (l.length : Int)) = true := decide_eq_true (by omega)
      have w1 : IntKind.i64.wrap ((i : Int) + 1) = ((i + 1 : Nat) : Int) := by rw [wrap64] <;> omega
      have hg := getEl hlt
      have hA := A17_step (n := n) hlt
      have hB := B17_step (fin := fin) hlt
      have hS := S17_step (n := n) (fin := fin) hlt hf.1
      have hAl : (A17 l n i).length ≤ l.length := by
        unfold A17; refine Nat.le_trans (toksS_len _) ?_; simp; omega
      have hBl : (B17 l fin i).length ≤ l.length := by
        unfold B17; refine Nat.le_trans (toksS_len _) ?_; simp; omega
      have hSl : (S17 l n fin i).length ≤ 4 * l.length := by
        unfold S17; refine Nat.le_trans (textS_len _) ?_; simp; omega
      have hm : l.getD i elZ ∈ l := by
        rw [List.getD_eq_getElem?_getD, List.getElem?_eq_getElem hlt]; exact List.getElem_mem hlt
      have hre := hr _ hm
      generalize l.getD i elZ = e at *
      simp only [El.av] at hg
      have next : ∀ (ta tb : List Tok) (s : List UInt8), ta = A17 l n (i + 1) → tb = B17 l fin (i + 1) → s = S17 l n fin (i + 1) → backQ (I17 a pad l n fin) (l.length - i) ⟨[(0, .sl 4 (l.map El.av)), (6, .box 6 0), (7, .box 7 0), (8, i64 n), (9, i64 fin), (10, .box 10 0), (14, .own 178), (15, .own 199), (16, .str s), (17, i64 ((i + 1 : Nat) : Int))], obH a pad ++ [(178, .row 71 3 (ta.map Tok.av)), (199, .row 71 3 (tb.map Tok.av))]⟩ := by
        rintro ta tb s rfl rfl rfl
        exact ⟨_, l.length - (i + 1), Gh.refl _, by omega, i + 1, rfl, by omega, rfl⟩
      simp only [obH, Hlf.av, Hlf.zero, Pat.av, Pat.zero, items, wkA, Nat.reduceEqDiff, Nat.reduceAdd, Nat.reduceSub, Nat.reduceLeDiff, Nat.reduceLT, Nat.reduceBEq, Nat.reduceBNe, reduceCtorEq] at next
      cases hp : e.pad with
      | true =>
        rw [hp] at hg hA hB hS
        have nx := next (A17 l n i) (B17 l fin i) (S17 l n fin i) (by rw [hA]; simp) (by rw [hB]; simp) (by rw [hS]; simp)
        simp only [ic57_17, obH, Hlf.av, Hlf.zero, Pat.av, Pat.zero, items, wkA, Nat.reduceEqDiff, Nat.reduceAdd, Nat.reduceSub, Nat.reduceLeDiff, Nat.reduceLT, Nat.reduceBEq, Nat.reduceBNe, reduceCtorEq, List.length_map, e0]
        simp only [ic57_16, ic57_15, wkA, Nat.reduceEqDiff, Nat.reduceAdd, Nat.reduceSub, Nat.reduceLeDiff, Nat.reduceLT, Nat.reduceBEq, Nat.reduceBNe, reduceCtorEq, Int.toNat_natCast, List.length_map, hg, w1]
        exact ⟨⟨by omega, by omega⟩, nx⟩
      | false =>
        rw [hp] at hg hA hB hS
        by_cases h1 : i < n
        · have e1 : decide ((i : Int) < (n : Int)) = true := decide_eq_true (by omega)
          have nx := next (A17 l n i ++ [e.t]) (B17 l fin i) (S17 l n fin i) (by rw [hA, if_pos ⟨rfl, h1⟩]) (by rw [hB, if_neg (by omega)]; simp) (by rw [hS, if_neg (by omega)]; simp)
          simp only [List.map_append, List.map_cons, List.map_nil, Tok.av] at nx
          simp only [ic57_17, obH, Hlf.av, Hlf.zero, Pat.av, Pat.zero, items, wkA, Nat.reduceEqDiff, Nat.reduceAdd, Nat.reduceSub, Nat.reduceLeDiff, Nat.reduceLT, Nat.reduceBEq, Nat.reduceBNe, reduceCtorEq, List.length_map, e0]
          simp only [ic57_16, ic57_15, ic57_14, wkA, Nat.reduceEqDiff, Nat.reduceAdd, Nat.reduceSub, Nat.reduceLeDiff, Nat.reduceLT, Nat.reduceBEq, Nat.reduceBNe, reduceCtorEq, Int.toNat_natCast, List.length_map, hg, w1, e1]
          exact ⟨⟨by omega, by omega⟩, ⟨by omega, by omega⟩, ⟨by omega, by omega⟩, nx⟩
        · have e1 : decide ((i : Int) < (n : Int)) = false := decide_eq_false (by omega)
          by_cases h2 : i < fin
          · have e2 : decide ((i : Int) < (fin : Int)) = true := decide_eq_true (by omega)
            have nx := next (A17 l n i) (B17 l fin i) (S17 l n fin i ++ bytesS e.t.r.toNat) (by rw [hA, if_neg (by omega)]; simp) (by rw [hB, if_neg (by omega)]; simp) (by rw [hS, if_pos ⟨rfl, by omega, h2⟩])
            have c88 := con88 (n := e.t.r.toNat) (by omega)
            rw [show ((e.t.r.toNat : Nat) : Int) = e.t.r by omega] at c88
            have hbl := bytesS_len e.t.r.toNat
            simp only [ic57_17, obH, Hlf.av, Hlf.zero, Pat.av, Pat.zero, items, wkA, Nat.reduceEqDiff, Nat.reduceAdd, Nat.reduceSub, Nat.reduceLeDiff, Nat.reduceLT, Nat.reduceBEq, Nat.reduceBNe, reduceCtorEq, List.length_map, e0]
            simp only [ic57_16, ic57_15, ic57_14, wkA, Nat.reduceEqDiff, Nat.reduceAdd, Nat.reduceSub, Nat.reduceLeDiff, Nat.reduceLT, Nat.reduceBEq, Nat.reduceBNe, reduceCtorEq, Int.toNat_natCast, List.length_map, hg, w1, e1, e2]
            refine ⟨⟨by omega, by omega⟩, ⟨by omega, by omega⟩, callF c88 rfl ?_⟩
            simp only [wkA, Nat.reduceEqDiff, Nat.reduceAdd, Nat.reduceSub, Nat.reduceLeDiff, Nat.reduceLT, Nat.reduceBEq, Nat.reduceBNe, reduceCtorEq, bts_map, w1]
            exact ⟨bts_ok _, by omega, nx⟩
          · have e2 : decide ((i : Int) < (fin : Int)) = false := decide_eq_false (by omega)
            have nx := next (A17 l n i) (B17 l fin i ++ [e.t]) (S17 l n fin i) (by rw [hA, if_neg (by omega)]; simp) (by rw [hB, if_pos ⟨rfl, by omega⟩]) (by rw [hS, if_neg (by omega)]; simp)
            simp only [List.map_append, List.map_cons, List.map_nil, Tok.av] at nx
            simp only [ic57_17, obH, Hlf.av, Hlf.zero, Pat.av, Pat.zero, items, wkA, Nat.reduceEqDiff, Nat.reduceAdd, Nat.reduceSub, Nat.reduceLeDiff, Nat.reduceLT, Nat.reduceBEq, Nat.reduceBNe, reduceCtorEq, List.length_map, e0]
            simp only [ic57_16, ic57_15, ic57_14, wkA, Nat.reduceEqDiff, Nat.reduceAdd, Nat.reduceSub, Nat.reduceLeDiff, Nat.reduceLT, Nat.reduceBEq, Nat.reduceBNe, reduceCtorEq, Int.toNat_natCast, List.length_map, hg, w1, e1, e2]
            exact ⟨⟨by omega, by omega⟩, ⟨by omega, by omega⟩, ⟨by omega, by omega⟩, nx⟩
    · have e0 : decide ((i : Int) < (l.length : Int)) = false := decide_eq_false (by omega)
      have ht : l.take i = l := List.take_of_length_le (by omega)
      have h1 : A17 l n i = toksS (l.take n) := by rw [A17, ht]
      have h2 : B17 l fin i = toksS (l.drop fin) := by rw [B17, ht]
      have h3 : S17 l n fin i = textS ((l.take fin).drop n) := by rw [S17, ht]
      have f := fun ex => seg57_21 a pad (textS ((l.take fin).drop n)) (toksS (l.take n)) (toksS (l.drop fin)) l n (i64 fin) ex (Nat.lt_of_le_of_lt (toksS_len _) (by simp; omega)) (Nat.lt_of_le_of_lt (toksS_len _) (by simp; omega)) (Nat.lt_of_le_of_lt (textS_len _) (by simp; omega)) hn
      simp only [obH, Hlf.av, Hlf.zero, Pat.av, Pat.zero, items, wkA, Nat.reduceEqDiff, Nat.reduceAdd, Nat.reduceSub, Nat.reduceLeDiff, Nat.reduceLT, Nat.reduceBEq, Nat.reduceBNe, reduceCtorEq] at f
      simp only [ic57_17, obH, Hlf.av, Hlf.zero, Pat.av, Pat.zero, items, wkA, Nat.reduceEqDiff, Nat.reduceAdd, Nat.reduceSub, Nat.reduceLeDiff, Nat.reduceLT, Nat.reduceBEq, Nat.reduceBNe, reduceCtorEq, List.length_map, e0, h1, h2, h3]
      exact f _
def padH (first : Bool) (l : List El) (n fin : Nat) : Except Flt Hlf := match padS first n fin l.length l 0 0 (0, 0) with
  | .error f => .error f
  | .ok h => parH h.1 h.2 (textS ((l.take fin).drop n)) (toksS (l.take n)) (toksS (l.drop fin)) l n
theorem padS_cons (first : Bool) (n fin len : Nat) (e : El) (l : List El) (i pads : Nat) (h : Nat × Int) : padS first n fin len (e :: l) i pads h =
    if e.pad = false then padS first n fin len l (i + 1) pads h
    else if placeS i n fin len = 0 ∨ 0 < pads ∨ first = false then .error ⟨7, e.t.at_⟩
    else padS first n fin len l (i + 1) (pads + 1) (placeS i n fin len, e.t.r) := rfl
def I13p (first : Bool) (l : List El) (n fin : Nat) (j : Nat) (st : St) : Prop := ∃ (i pads a : Nat) (pd : Int), j = l.length - i ∧ i ≤ l.length ∧ pads ≤ i ∧
  st = ⟨[(0, .sl 4 (l.map El.av)), (2, .bool first), (6, .box 6 0), (7, .box 7 0), (8, i64 n), (9, i64 fin), (10, .box 10 0), (11, i64 pads), (12, i64 i)], obH a pd⟩ ∧
  padS first n fin l.length l 0 0 (0, 0) = padS first n fin l.length (l.drop i) i pads (a, pd)
theorem seg57_23 (first : Bool) (l : List El) (n fin : Nat) (ex : List (Nat × AV)) (hl : l.length < 90000) (hn : n < l.length) (hf : n ≤ fin ∧ fin ≤ l.length) (hr : ∀ e ∈ l, 0 ≤ e.t.r ∧ e.t.r < 2097152) :
    VC e0 ic57_23 (qH (padH first l n fin)) ⟨(0, .sl 4 (l.map El.av)) :: (2, .bool first) :: (6, .box 6 0) :: (7, .box 7 0) :: (8, i64 n) :: (9, i64 fin) :: ex, [(6, .box 76 (avCells Hlf.zero.av)), (7, .box 52 [i64 0, i64 0])]⟩ := by
  simp only [ic57_23, Hlf.av, Hlf.zero, Pat.av, Pat.zero, items, wkA, Nat.reduceEqDiff, Nat.reduceAdd, Nat.reduceSub, Nat.reduceLeDiff, Nat.reduceLT, Nat.reduceBEq, Nat.reduceBNe, reduceCtorEq]
  refine ⟨I13p first l n fin, l.length, _, Gh.refl _, ⟨0, 0, 0, 0, rfl, by omega, by omega, rfl, rfl⟩, ?_⟩
  rintro j st ⟨i, pads, a, pd, rfl, hi, hpi, rfl, hp⟩
  by_cases hlt : i < l.length
  · have e0 : decide ((i : Int) < (l.length : Int)) = true := decide_eq_true (by omega)
    have w1 : IntKind.i64.wrap ((i : Int) + 1) = ((i + 1 : Nat) : Int) := by rw [wrap64] <;> omega
    have wp : IntKind.i64.wrap ((pads : Int) + 1) = ((pads + 1 : Nat) : Int) := by rw [wrap64] <;> omega
    have wn : IntKind.i64.wrap ((n : Int) - 1) = (n : Int) - 1 := by rw [wrap64] <;> omega
    have wl : IntKind.i64.wrap ((l.length : Int) - 1) = (l.length : Int) - 1 := by rw [wrap64] <;> omega
    have hg := getEl hlt
    have hd : l.drop i = l.getD i elZ :: l.drop (i + 1) := by
      rw [List.drop_eq_getElem_cons hlt, List.getD_eq_getElem?_getD, List.getElem?_eq_getElem hlt]; rfl
    rw [hd, padS_cons] at hp
    generalize l.getD i elZ = e at *
    simp only [El.av] at hg
    cases hpd : e.pad with
    | false =>
      rw [hpd] at hg hp
      rw [if_pos rfl] at hp
      simp only [ic57_13, obH, Hlf.av, Hlf.zero, Pat.av, Pat.zero, items, wkA, Nat.reduceEqDiff, Nat.reduceAdd, Nat.reduceSub, Nat.reduceLeDiff, Nat.reduceLT, Nat.reduceBEq, Nat.reduceBNe, reduceCtorEq, List.length_map, e0]
      simp only [ic57_12, ic57_11, wkA, Nat.reduceEqDiff, Nat.reduceAdd, Nat.reduceSub, Nat.reduceLeDiff, Nat.reduceLT, Nat.reduceBEq, Nat.reduceBNe, reduceCtorEq, Int.toNat_natCast, List.length_map, hg, w1, Bool.not_false]
      exact ⟨⟨by omega, by omega⟩, _, l.length - (i + 1), Gh.refl _, by omega, i + 1, pads, a, pd, rfl, by omega, by omega, rfl, hp⟩
    | true =>
      rw [hpd] at hg hp
      rw [if_neg (by simp)] at hp
      have hstep : ∀ k : Nat, k = placeS i n fin l.length → (k = 0 ∨ 0 < pads ∨ first = false) → padH first l n fin = .error ⟨7, e.t.at_⟩ := by
        intro k hk hb
        rw [← hk, if_pos hb] at hp
        rw [padH, hp]
      have next : ∀ k : Nat, k = placeS i n fin l.length → ¬ (k = 0 ∨ 0 < pads ∨ first = false) → backQ (I13p first l n fin) (l.length - i) ⟨[(0, .sl 4 (l.map El.av)), (2, .bool first), (6, .box 6 0), (7, .box 7 0), (8, i64 n), (9, i64 fin), (10, .box 10 0), (11, i64 ((pads + 1 : Nat) : Int)), (12, i64 ((i + 1 : Nat) : Int))], obH k e.t.r⟩ := by
        intro k hk hb
        rw [← hk, if_neg hb] at hp
        exact ⟨_, l.length - (i + 1), Gh.refl _, by omega, i + 1, pads + 1, k, e.t.r, rfl, by omega, by omega, rfl, hp⟩
      simp only [ic57_13, obH, Hlf.av, Hlf.zero, Pat.av, Pat.zero, items, wkA, Nat.reduceEqDiff, Nat.reduceAdd, Nat.reduceSub, Nat.reduceLeDiff, Nat.reduceLT, Nat.reduceBEq, Nat.reduceBNe, reduceCtorEq, List.length_map, e0]
      simp only [ic57_12, wkA, Nat.reduceEqDiff, Nat.reduceAdd, Nat.reduceSub, Nat.reduceLeDiff, Nat.reduceLT, Nat.reduceBEq, Nat.reduceBNe, reduceCtorEq, Int.toNat_natCast, List.length_map, hg, Bool.not_true]
      refine ⟨⟨by omega, by omega⟩, ?_⟩
      have mid : ∀ (k : Nat) (ex : List (Nat × AV)), k = placeS i n fin l.length → VC F.e0 ic57_9 (blockQ 7 (thenQ (VC F.e0 ic57_11 (thenQ (backQ (I13p first l n fin) (l.length - i)) (blockQ 6 (thenQ (VC F.e0 ic57_22 (qH (padH first l n fin))) (qH (padH first l n fin)))))) (thenQ (backQ (I13p first l n fin) (l.length - i)) (blockQ 6 (thenQ (VC F.e0 ic57_22 (qH (padH first l n fin))) (qH (padH first l n fin)))))))
          ⟨(0, .sl 4 (l.map El.av)) :: (2, .bool first) :: (6, .box 6 0) :: (7, .box 7 0) :: (8, i64 n) :: (9, i64 fin) :: (10, .box 10 0) :: (11, i64 pads) :: (12, i64 i) :: (13, i64 k) :: ex, obH a pd⟩ := by
        intro k ex hk
        have hst := hstep k hk
        have nx := next k hk
        simp only [obH, Hlf.av, Hlf.zero, Pat.av, Pat.zero, items, wkA, Nat.reduceEqDiff, Nat.reduceAdd, Nat.reduceSub, Nat.reduceLeDiff, Nat.reduceLT, Nat.reduceBEq, Nat.reduceBNe, reduceCtorEq] at nx
        have ek : (((k : Nat) : Int) == 0) = decide (k = 0) := by rw [Bool.eq_iff_iff, beq_iff_eq, decide_eq_true_eq]; omega
        have ep : decide (((pads + 1 : Nat) : Int) > 1) = decide (0 < pads) := by rw [decide_eq_decide]; omega
        by_cases h1 : k = 0
        · rw [decide_eq_true h1] at ek
          rw [hst (.inl h1)]
          simp only [ic57_9, obH, Hlf.av, Hlf.zero, Pat.av, Pat.zero, items, wkA, Nat.reduceEqDiff, Nat.reduceAdd, Nat.reduceSub, Nat.reduceLeDiff, Nat.reduceLT, Nat.reduceBEq, Nat.reduceBNe, reduceCtorEq, wp, ek, Int.toNat_natCast, List.length_map, hg]
          refine ⟨⟨by omega, by omega⟩, ?_⟩
          rfl
        · rw [decide_eq_false h1] at ek
          by_cases h2 : 0 < pads
          · rw [decide_eq_true h2] at ep
            rw [hst (.inr (.inl h2))]
            simp only [ic57_9, obH, Hlf.av, Hlf.zero, Pat.av, Pat.zero, items, wkA, Nat.reduceEqDiff, Nat.reduceAdd, Nat.reduceSub, Nat.reduceLeDiff, Nat.reduceLT, Nat.reduceBEq, Nat.reduceBNe, reduceCtorEq, wp, ek, ep, Int.toNat_natCast, List.length_map, hg]
            refine ⟨⟨by omega, by omega⟩, ?_⟩
            rfl
          · rw [decide_eq_false h2] at ep
            cases hfst : first with
            | false =>
              rw [hfst] at hst
              rw [hst (.inr (.inr rfl))]
              simp only [ic57_9, obH, Hlf.av, Hlf.zero, Pat.av, Pat.zero, items, wkA, Nat.reduceEqDiff, Nat.reduceAdd, Nat.reduceSub, Nat.reduceLeDiff, Nat.reduceLT, Nat.reduceBEq, Nat.reduceBNe, reduceCtorEq, wp, ek, ep, Bool.not_false, Int.toNat_natCast, List.length_map, hg]
              refine ⟨⟨by omega, by omega⟩, ?_⟩
              rfl
            | true =>
              rw [hfst] at nx
              have nx := nx (by simp [h1, h2])
              simp only [ic57_9, obH, Hlf.av, Hlf.zero, Pat.av, Pat.zero, items, wkA, Nat.reduceEqDiff, Nat.reduceAdd, Nat.reduceSub, Nat.reduceLeDiff, Nat.reduceLT, Nat.reduceBEq, Nat.reduceBNe, reduceCtorEq, wp, ek, ep, Bool.not_true]
              simp only [ic57_8, wkA, Nat.reduceEqDiff, Nat.reduceAdd, Nat.reduceSub, Nat.reduceLeDiff, Nat.reduceLT, Nat.reduceBEq, Nat.reduceBNe, reduceCtorEq, Int.toNat_natCast, List.length_map, hg]
              refine ⟨⟨by omega, by omega⟩, ?_⟩
              simp only [ic57_11, wkA, Nat.reduceEqDiff, Nat.reduceAdd, Nat.reduceSub, Nat.reduceLeDiff, Nat.reduceLT, Nat.reduceBEq, Nat.reduceBNe, reduceCtorEq, w1]
              exact nx
      simp only [obH, Hlf.av, Hlf.zero, Pat.av, Pat.zero, items, wkA, Nat.reduceEqDiff, Nat.reduceAdd, Nat.reduceSub, Nat.reduceLeDiff, Nat.reduceLT, Nat.reduceBEq, Nat.reduceBNe, reduceCtorEq] at mid
      have i0 : (((i : Nat) : Int) == 0) = decide (i = 0) := by rw [Bool.eq_iff_iff, beq_iff_eq, decide_eq_true_eq]; omega
      have i1 : (((i : Nat) : Int) == (n : Int) - 1) = decide (i + 1 = n) := by rw [Bool.eq_iff_iff, beq_iff_eq, decide_eq_true_eq]; omega
      have i2 : (((i : Nat) : Int) == (fin : Int)) = decide (i = fin) := by rw [Bool.eq_iff_iff, beq_iff_eq, decide_eq_true_eq]; omega
      have i3 : (((i : Nat) : Int) == (l.length : Int) - 1) = decide (i + 1 = l.length) := by rw [Bool.eq_iff_iff, beq_iff_eq, decide_eq_true_eq]; omega
      by_cases p1 : i = 0
      · rw [decide_eq_true p1] at i0
        simp only [ic57_10, wkA, Nat.reduceEqDiff, Nat.reduceAdd, Nat.reduceSub, Nat.reduceLeDiff, Nat.reduceLT, Nat.reduceBEq, Nat.reduceBNe, reduceCtorEq, i0]
        exact mid 1 _ (by rw [placeS, if_pos p1])
      · rw [decide_eq_false p1] at i0
        by_cases p2 : i + 1 = n
        · rw [decide_eq_true p2] at i1
          simp only [ic57_10, wkA, Nat.reduceEqDiff, Nat.reduceAdd, Nat.reduceSub, Nat.reduceLeDiff, Nat.reduceLT, Nat.reduceBEq, Nat.reduceBNe, reduceCtorEq, i0, wn, i1]
          exact mid 2 _ (by rw [placeS, if_neg p1, if_pos p2])
        · rw [decide_eq_false p2] at i1
          by_cases p3 : i = fin
          · rw [decide_eq_true p3] at i2
            simp only [ic57_10, wkA, Nat.reduceEqDiff, Nat.reduceAdd, Nat.reduceSub, Nat.reduceLeDiff, Nat.reduceLT, Nat.reduceBEq, Nat.reduceBNe, reduceCtorEq, i0, wn, i1, i2]
            exact mid 3 _ (by rw [placeS, if_neg p1, if_neg p2, if_pos p3])
          · rw [decide_eq_false p3] at i2
            by_cases p4 : i + 1 = l.length
            · rw [decide_eq_true p4] at i3
              simp only [ic57_10, wkA, Nat.reduceEqDiff, Nat.reduceAdd, Nat.reduceSub, Nat.reduceLeDiff, Nat.reduceLT, Nat.reduceBEq, Nat.reduceBNe, reduceCtorEq, i0, wn, i1, i2, List.length_map, wl, i3]
              exact mid 4 _ (by rw [placeS, if_neg p1, if_neg p2, if_neg p3, if_pos p4])
            · rw [decide_eq_false p4] at i3
              simp only [ic57_10, wkA, Nat.reduceEqDiff, Nat.reduceAdd, Nat.reduceSub, Nat.reduceLeDiff, Nat.reduceLT, Nat.reduceBEq, Nat.reduceBNe, reduceCtorEq, i0, wn, i1, i2, List.length_map, wl, i3]
              exact mid 0 _ (by rw [placeS, if_neg p1, if_neg p2, if_neg p3, if_neg p4])
  · have e0 : decide ((i : Int) < (l.length : Int)) = false := decide_eq_false (by omega)
    have hd : l.drop i = [] := List.drop_of_length_le (by omega)
    rw [hd] at hp
    have hres : padH first l n fin = parH a pd (textS ((l.take fin).drop n)) (toksS (l.take n)) (toksS (l.drop fin)) l n := by
      rw [padH, hp]; rfl
    rw [hres]
    have f := fun ex => seg57_22 a pd l n fin (.bool first) ex hl hn hf hr
    simp only [obH, Hlf.av, Hlf.zero, Pat.av, Pat.zero, items, wkA, Nat.reduceEqDiff, Nat.reduceAdd, Nat.reduceSub, Nat.reduceLeDiff, Nat.reduceLT, Nat.reduceBEq, Nat.reduceBNe, reduceCtorEq] at f
    simp only [ic57_13, obH, Hlf.av, Hlf.zero, Pat.av, Pat.zero, items, wkA, Nat.reduceEqDiff, Nat.reduceAdd, Nat.reduceSub, Nat.reduceLeDiff, Nat.reduceLT, Nat.reduceBEq, Nat.reduceBNe, reduceCtorEq, List.length_map, e0]
    exact f _
theorem drop_getE {l : List El} {i : Nat} (h : i < l.length) : l.drop i = l.getD i elZ :: l.drop (i + 1) := by
  rw [List.drop_eq_getElem_cons h, List.getD_eq_getElem?_getD, List.getElem?_eq_getElem h]; rfl
theorem runS_end {l : List El} {e : Nat} (h : l.length ≤ e) : runS l e = e := by rw [runS, List.drop_of_length_le h]; rfl
theorem runS_yes {l : List El} {e : Nat} (h : e < l.length) (hb : (l.getD e elZ).body = true) : runS l e = runS l (e + 1) := by
  rw [runS, runS, drop_getE h, List.takeWhile_cons, if_pos hb, List.length_cons]; omega
theorem runS_no {l : List El} {e : Nat} (h : e < l.length) (hb : (l.getD e elZ).body = false) : runS l e = e := by
  rw [runS, drop_getE h, List.takeWhile_cons, if_neg (by rw [hb]; simp)]; rfl
abbrev tm57 (first : Bool) (l : List El) (n e : Nat) : List (Nat × AV) := [(0, .sl 4 (l.map El.av)), (2, .bool first), (6, .box 6 0), (7, .box 7 0), (8, i64 n), (9, i64 e)]
abbrev ob57 : List (Nat × Ob) := [(6, .box 76 (avCells Hlf.zero.av)), (7, .box 52 [i64 0, i64 0])]
def I57r (first : Bool) (l : List El) (n m : Nat) (j : Nat) (st : St) : Prop := ∃ (e : Nat) (ex : List (Nat × AV)), j = l.length - e ∧ m ≤ e ∧ e ≤ l.length ∧ st = ⟨tm57 first l n e ++ ex, ob57⟩ ∧ runS l m = runS l e
theorem seg57_7 (first : Bool) (l : List El) (n m : Nat) (ex : List (Nat × AV)) (hl : l.length < 90000) (hm : m ≤ l.length) (hn : n < l.length) (hnm : n ≤ m) (hr : ∀ e ∈ l, 0 ≤ e.t.r ∧ e.t.r < 2097152) (R : Except Flt Hlf) (hR : R = padH first l n (runS l m)) :
    VC e0 ic57_7 (thenQ (VC e0 ic57_23 (qH R)) (qH R)) ⟨tm57 first l n m ++ ex, ob57⟩ := by
  simp only [ic57_7, tm57, ob57, Hlf.av, Hlf.zero, Pat.av, Pat.zero, items, wkA, Nat.reduceEqDiff, Nat.reduceAdd, Nat.reduceSub, Nat.reduceLeDiff, Nat.reduceLT, Nat.reduceBEq, Nat.reduceBNe, reduceCtorEq]
  refine ⟨I57r first l n m, l.length - m, _, Gh.refl _, ⟨m, ex, rfl, Nat.le_refl _, hm, rfl, rfl⟩, ?_⟩
  rintro j st ⟨e, ex, rfl, hme, he, rfl, hrun⟩
  have out : runS l m = e → ∀ ex, VC F.e0 ic57_23 (qH R) ⟨tm57 first l n e ++ ex, ob57⟩ := by
    intro h ex
    rw [hR, h]
    exact seg57_23 first l n e ex hl hn ⟨by omega, he⟩ hr
  simp only [tm57, ob57, Hlf.av, Hlf.zero, Pat.av, Pat.zero, items, wkA, Nat.reduceEqDiff, Nat.reduceAdd, Nat.reduceSub, Nat.reduceLeDiff, Nat.reduceLT, Nat.reduceBEq, Nat.reduceBNe, reduceCtorEq] at out
  by_cases hlt : e < l.length
  · have h0 : decide ((e : Int) < (l.length : Int)) = true := decide_eq_true (by omega)
    have w1 : IntKind.i64.wrap ((e : Int) + 1) = ((e + 1 : Nat) : Int) := by rw [wrap64] <;> omega
    have hg := getEl hlt
    have c87 := con87 (l.getD e elZ)
    simp only [El.av] at hg c87
    cases hb : (l.getD e elZ).body with
    | true =>
      rw [hb] at c87
      simp only [ic57_6, tm57, ob57, Hlf.av, Hlf.zero, Pat.av, Pat.zero, items, wkA, Nat.reduceEqDiff, Nat.reduceAdd, Nat.reduceSub, Nat.reduceLeDiff, Nat.reduceLT, Nat.reduceBEq, Nat.reduceBNe, reduceCtorEq, List.length_map, h0, Int.toNat_natCast, hg]
      refine ⟨⟨by omega, by omega⟩, callF c87 rfl ?_⟩
      simp only [wkA, Nat.reduceEqDiff, Nat.reduceAdd, Nat.reduceSub, Nat.reduceLeDiff, Nat.reduceLT, Nat.reduceBEq, Nat.reduceBNe, reduceCtorEq]
      simp only [ic57_5, wkA, Nat.reduceEqDiff, Nat.reduceAdd, Nat.reduceSub, Nat.reduceLeDiff, Nat.reduceLT, Nat.reduceBEq, Nat.reduceBNe, reduceCtorEq, w1]
      exact ⟨_, l.length - (e + 1), Gh.refl _, by omega, e + 1, [], rfl, by omega, by omega, rfl, by rw [hrun, runS_yes hlt hb]⟩
    | false =>
      rw [hb] at c87
      simp only [ic57_6, tm57, ob57, Hlf.av, Hlf.zero, Pat.av, Pat.zero, items, wkA, Nat.reduceEqDiff, Nat.reduceAdd, Nat.reduceSub, Nat.reduceLeDiff, Nat.reduceLT, Nat.reduceBEq, Nat.reduceBNe, reduceCtorEq, List.length_map, h0, Int.toNat_natCast, hg]
      refine ⟨⟨by omega, by omega⟩, callF c87 rfl ?_⟩
      simp only [wkA, Nat.reduceEqDiff, Nat.reduceAdd, Nat.reduceSub, Nat.reduceLeDiff, Nat.reduceLT, Nat.reduceBEq, Nat.reduceBNe, reduceCtorEq]
      exact out (by rw [hrun, runS_no hlt hb]) _
  · have h0 : decide ((e : Int) < (l.length : Int)) = false := decide_eq_false (by omega)
    simp only [ic57_6, tm57, ob57, Hlf.av, Hlf.zero, Pat.av, Pat.zero, items, wkA, Nat.reduceEqDiff, Nat.reduceAdd, Nat.reduceSub, Nat.reduceLeDiff, Nat.reduceLT, Nat.reduceBEq, Nat.reduceBNe, reduceCtorEq, List.length_map, h0]
    exact out (by rw [hrun, runS_end (by omega)]) _
theorem plainAt_lt {l : List El} {i : Nat} {r : Int} (h : i < l.length) : plainAt l i r = (l.getD i elZ).plain r := by
  rw [plainAt, List.getElem?_eq_getElem h, List.getD_eq_getElem?_getD, List.getElem?_eq_getElem h]; rfl
theorem plainAt_ge {l : List El} {i : Nat} {r : Int} (h : l.length ≤ i) : plainAt l i r = false := by
  rw [plainAt, List.getElem?_eq_none h]
theorem seg57_24 (first : Bool) (l : List El) (n m : Nat) (ex : List (Nat × AV)) (hl : l.length < 90000) (hm : m ≤ l.length) (hn : n < l.length) (hnm : n ≤ m) (hr : ∀ e ∈ l, 0 ≤ e.t.r ∧ e.t.r < 2097152) (R : Except Flt Hlf)
    (hR : R = padH first l n (if plainAt l m 69 = true then runS l (if plainAt l (m + 1) 43 = true then m + 2 else m + 1) else m)) :
    VC e0 ic57_24 (qH R) ⟨tm57 first l n m ++ ex, ob57⟩ := by
  by_cases hlt : m < l.length
  · have h0 : decide ((m : Int) < (l.length : Int)) = true := decide_eq_true (by omega)
    have w1 : IntKind.i64.wrap ((m : Int) + 1) = ((m + 1 : Nat) : Int) := by rw [wrap64] <;> omega
    have hg := getEl hlt
    have c56 := con56 (l.getD m elZ) 69
    simp only [El.av] at hg c56
    cases hp : (l.getD m elZ).plain 69 with
    | false =>
      rw [hp] at c56
      rw [plainAt_lt hlt, hp, if_neg (by simp)] at hR
      have f := fun ex => seg57_23 first l n m ex hl hn ⟨hnm, hm⟩ hr
      rw [← hR] at f
      simp only [Hlf.av, Hlf.zero, Pat.av, Pat.zero, items, wkA, Nat.reduceEqDiff, Nat.reduceAdd, Nat.reduceSub, Nat.reduceLeDiff, Nat.reduceLT, Nat.reduceBEq, Nat.reduceBNe, reduceCtorEq] at f
      simp only [ic57_24, tm57, ob57, Hlf.av, Hlf.zero, Pat.av, Pat.zero, items, wkA, Nat.reduceEqDiff, Nat.reduceAdd, Nat.reduceSub, Nat.reduceLeDiff, Nat.reduceLT, Nat.reduceBEq, Nat.reduceBNe, reduceCtorEq, List.length_map, h0, Int.toNat_natCast, hg]
      refine ⟨⟨by omega, by omega⟩, callF c56 rfl ?_⟩
      simp only [wkA, Nat.reduceEqDiff, Nat.reduceAdd, Nat.reduceSub, Nat.reduceLeDiff, Nat.reduceLT, Nat.reduceBEq, Nat.reduceBNe, reduceCtorEq]
      exact f _
    | true =>
      rw [hp] at c56
      rw [plainAt_lt hlt, hp, if_pos rfl] at hR
      by_cases hlt2 : m + 1 < l.length
      · have h02 : decide (((m + 1 : Nat) : Int) < (l.length : Int)) = true := decide_eq_true (by omega)
        have w2 : IntKind.i64.wrap (((m + 1 : Nat) : Int) + 1) = ((m + 2 : Nat) : Int) := by rw [wrap64] <;> omega
        have hg2 := getEl hlt2
        have c562 := con56 (l.getD (m + 1) elZ) 43
        simp only [El.av] at hg2 c562
        cases hp2 : (l.getD (m + 1) elZ).plain 43 with
        | false =>
          rw [hp2] at c562
          rw [plainAt_lt hlt2, hp2, if_neg (by simp)] at hR
          have f := fun ex => seg57_7 first l n (m + 1) ex hl (by omega) hn (by omega) hr R hR
          simp only [tm57, ob57, Hlf.av, Hlf.zero, Pat.av, Pat.zero, items, wkA, Nat.reduceEqDiff, Nat.reduceAdd, Nat.reduceSub, Nat.reduceLeDiff, Nat.reduceLT, Nat.reduceBEq, Nat.reduceBNe, reduceCtorEq] at f
          simp only [ic57_24, tm57, ob57, Hlf.av, Hlf.zero, Pat.av, Pat.zero, items, wkA, Nat.reduceEqDiff, Nat.reduceAdd, Nat.reduceSub, Nat.reduceLeDiff, Nat.reduceLT, Nat.reduceBEq, Nat.reduceBNe, reduceCtorEq, List.length_map, h0, Int.toNat_natCast, hg]
          refine ⟨⟨by omega, by omega⟩, callF c56 rfl ?_⟩
          simp only [wkA, Nat.reduceEqDiff, Nat.reduceAdd, Nat.reduceSub, Nat.reduceLeDiff, Nat.reduceLT, Nat.reduceBEq, Nat.reduceBNe, reduceCtorEq, w1, List.length_map, h02, Int.toNat_natCast, hg2]
          refine ⟨⟨by omega, by omega⟩, callF c562 rfl ?_⟩
          simp only [wkA, Nat.reduceEqDiff, Nat.reduceAdd, Nat.reduceSub, Nat.reduceLeDiff, Nat.reduceLT, Nat.reduceBEq, Nat.reduceBNe, reduceCtorEq]
          exact f _
        | true =>
          rw [hp2] at c562
          rw [plainAt_lt hlt2, hp2, if_pos rfl] at hR
          have f := fun ex => seg57_7 first l n (m + 2) ex hl (by omega) hn (by omega) hr R hR
          simp only [tm57, ob57, Hlf.av, Hlf.zero, Pat.av, Pat.zero, items, wkA, Nat.reduceEqDiff, Nat.reduceAdd, Nat.reduceSub, Nat.reduceLeDiff, Nat.reduceLT, Nat.reduceBEq, Nat.reduceBNe, reduceCtorEq] at f
          simp only [ic57_24, tm57, ob57, Hlf.av, Hlf.zero, Pat.av, Pat.zero, items, wkA, Nat.reduceEqDiff, Nat.reduceAdd, Nat.reduceSub, Nat.reduceLeDiff, Nat.reduceLT, Nat.reduceBEq, Nat.reduceBNe, reduceCtorEq, List.length_map, h0, Int.toNat_natCast, hg]
          refine ⟨⟨by omega, by omega⟩, callF c56 rfl ?_⟩
          simp only [wkA, Nat.reduceEqDiff, Nat.reduceAdd, Nat.reduceSub, Nat.reduceLeDiff, Nat.reduceLT, Nat.reduceBEq, Nat.reduceBNe, reduceCtorEq, w1, List.length_map, h02, Int.toNat_natCast, hg2]
          refine ⟨⟨by omega, by omega⟩, callF c562 rfl ?_⟩
          simp only [wkA, Nat.reduceEqDiff, Nat.reduceAdd, Nat.reduceSub, Nat.reduceLeDiff, Nat.reduceLT, Nat.reduceBEq, Nat.reduceBNe, reduceCtorEq, w2]
          exact f _
      · have h02 : decide (((m + 1 : Nat) : Int) < (l.length : Int)) = false := decide_eq_false (by omega)
        rw [plainAt_ge (by omega), if_neg (by simp)] at hR
        have f := fun ex => seg57_7 first l n (m + 1) ex hl (by omega) hn (by omega) hr R hR
        simp only [tm57, ob57, Hlf.av, Hlf.zero, Pat.av, Pat.zero, items, wkA, Nat.reduceEqDiff, Nat.reduceAdd, Nat.reduceSub, Nat.reduceLeDiff, Nat.reduceLT, Nat.reduceBEq, Nat.reduceBNe, reduceCtorEq] at f
        simp only [ic57_24, tm57, ob57, Hlf.av, Hlf.zero, Pat.av, Pat.zero, items, wkA, Nat.reduceEqDiff, Nat.reduceAdd, Nat.reduceSub, Nat.reduceLeDiff, Nat.reduceLT, Nat.reduceBEq, Nat.reduceBNe, reduceCtorEq, List.length_map, h0, Int.toNat_natCast, hg]
        refine ⟨⟨by omega, by omega⟩, callF c56 rfl ?_⟩
        simp only [wkA, Nat.reduceEqDiff, Nat.reduceAdd, Nat.reduceSub, Nat.reduceLeDiff, Nat.reduceLT, Nat.reduceBEq, Nat.reduceBNe, reduceCtorEq, w1, List.length_map, h02]
        exact f _
  · have h0 : decide ((m : Int) < (l.length : Int)) = false := decide_eq_false (by omega)
    rw [plainAt_ge (by omega), if_neg (by simp)] at hR
    have f := fun ex => seg57_23 first l n m ex hl hn ⟨hnm, hm⟩ hr
    rw [← hR] at f
    simp only [Hlf.av, Hlf.zero, Pat.av, Pat.zero, items, wkA, Nat.reduceEqDiff, Nat.reduceAdd, Nat.reduceSub, Nat.reduceLeDiff, Nat.reduceLT, Nat.reduceBEq, Nat.reduceBNe, reduceCtorEq] at f
    simp only [ic57_24, tm57, ob57, Hlf.av, Hlf.zero, Pat.av, Pat.zero, items, wkA, Nat.reduceEqDiff, Nat.reduceAdd, Nat.reduceSub, Nat.reduceLeDiff, Nat.reduceLT, Nat.reduceBEq, Nat.reduceBNe, reduceCtorEq, List.length_map, h0]
    exact f _
theorem seg57_25 (first : Bool) (l : List El) (n : Nat) (v1 : AV) (ex : List (Nat × AV)) (hl : l.length < 90000) (hn : n < l.length) (hr : ∀ e ∈ l, 0 ≤ e.t.r ∧ e.t.r < 2097152) :
    VC e0 ic57_25 (qH (padH first l n (endS l n))) ⟨(0, .sl 4 (l.map El.av)) :: (1, v1) :: (2, .bool first) :: (6, .box 6 0) :: (7, .box 7 0) :: (8, i64 n) :: ex, ob57⟩ := by
  simp only [ic57_25, ob57, Hlf.av, Hlf.zero, Pat.av, Pat.zero, items, wkA, Nat.reduceEqDiff, Nat.reduceAdd, Nat.reduceSub, Nat.reduceLeDiff, Nat.reduceLT, Nat.reduceBEq, Nat.reduceBNe, reduceCtorEq]
  refine ⟨I57r first l n n, l.length - n, _, Gh.refl _, ⟨n, [], rfl, Nat.le_refl _, by omega, rfl, rfl⟩, ?_⟩
  rintro j st ⟨e, ex, rfl, hme, he, rfl, hrun⟩
  have out : runS l n = e → ∀ ex, VC F.e0 ic57_24 (qH (padH first l n (endS l n))) ⟨tm57 first l n e ++ ex, ob57⟩ := by
    intro h ex
    exact seg57_24 first l n e ex hl he hn hme hr _ (by rw [endS, h])
  simp only [tm57, ob57, Hlf.av, Hlf.zero, Pat.av, Pat.zero, items, wkA, Nat.reduceEqDiff, Nat.reduceAdd, Nat.reduceSub, Nat.reduceLeDiff, Nat.reduceLT, Nat.reduceBEq, Nat.reduceBNe, reduceCtorEq] at out
  by_cases hlt : e < l.length
  · have h0 : decide ((e : Int) < (l.length : Int)) = true := decide_eq_true (by omega)
    have w1 : IntKind.i64.wrap ((e : Int) + 1) = ((e + 1 : Nat) : Int) := by rw [wrap64] <;> omega
    have hg := getEl hlt
    have c87 := con87 (l.getD e elZ)
    simp only [El.av] at hg c87
    cases hb : (l.getD e elZ).body with
    | true =>
      rw [hb] at c87
      simp only [ic57_4, tm57, ob57, Hlf.av, Hlf.zero, Pat.av, Pat.zero, items, wkA, Nat.reduceEqDiff, Nat.reduceAdd, Nat.reduceSub, Nat.reduceLeDiff, Nat.reduceLT, Nat.reduceBEq, Nat.reduceBNe, reduceCtorEq, List.length_map, h0, Int.toNat_natCast, hg]
      refine ⟨⟨by omega, by omega⟩, callF c87 rfl ?_⟩
      simp only [wkA, Nat.reduceEqDiff, Nat.reduceAdd, Nat.reduceSub, Nat.reduceLeDiff, Nat.reduceLT, Nat.reduceBEq, Nat.reduceBNe, reduceCtorEq]
      simp only [ic57_3, wkA, Nat.reduceEqDiff, Nat.reduceAdd, Nat.reduceSub, Nat.reduceLeDiff, Nat.reduceLT, Nat.reduceBEq, Nat.reduceBNe, reduceCtorEq, w1]
      exact ⟨_, l.length - (e + 1), Gh.refl _, by omega, e + 1, [], rfl, by omega, by omega, rfl, by rw [hrun, runS_yes hlt hb]⟩
    | false =>
      rw [hb] at c87
      simp only [ic57_4, tm57, ob57, Hlf.av, Hlf.zero, Pat.av, Pat.zero, items, wkA, Nat.reduceEqDiff, Nat.reduceAdd, Nat.reduceSub, Nat.reduceLeDiff, Nat.reduceLT, Nat.reduceBEq, Nat.reduceBNe, reduceCtorEq, List.length_map, h0, Int.toNat_natCast, hg]
      refine ⟨⟨by omega, by omega⟩, callF c87 rfl ?_⟩
      simp only [wkA, Nat.reduceEqDiff, Nat.reduceAdd, Nat.reduceSub, Nat.reduceLeDiff, Nat.reduceLT, Nat.reduceBEq, Nat.reduceBNe, reduceCtorEq]
      exact out (by rw [hrun, runS_no hlt hb]) _
  · have h0 : decide ((e : Int) < (l.length : Int)) = false := decide_eq_false (by omega)
    simp only [ic57_4, tm57, ob57, Hlf.av, Hlf.zero, Pat.av, Pat.zero, items, wkA, Nat.reduceEqDiff, Nat.reduceAdd, Nat.reduceSub, Nat.reduceLeDiff, Nat.reduceLT, Nat.reduceBEq, Nat.reduceBNe, reduceCtorEq, List.length_map, h0]
    exact out (by rw [hrun, runS_end (by omega)]) _
def hlfN (l : List El) (b : Int) (first : Bool) : Except Flt Hlf := if beginS l = l.length then .error ⟨4, b⟩ else padH first l (beginS l) (endS l (beginS l))
theorem beginS_le (l : List El) : beginS l ≤ l.length := by rw [beginS]; exact (List.takeWhile_sublist _).length_le
theorem seg57_26 (first : Bool) (l : List El) (b : Int) (ex : List (Nat × AV)) (hl : l.length < 90000) (hr : ∀ e ∈ l, 0 ≤ e.t.r ∧ e.t.r < 2097152) :
    VC e0 ic57_26 (qH (hlfN l b first)) ⟨(0, .sl 4 (l.map El.av)) :: (1, i64 b) :: (2, .bool first) :: (6, .box 6 0) :: (7, .box 7 0) :: (8, i64 (beginS l)) :: ex, ob57⟩ := by
  have hle := beginS_le l
  have e1 : (((beginS l : Nat) : Int) == (l.length : Int)) = decide (beginS l = l.length) := by rw [Bool.eq_iff_iff, beq_iff_eq, decide_eq_true_eq]; omega
  unfold hlfN
  by_cases h : beginS l = l.length
  · rw [decide_eq_true h] at e1
    rw [if_pos h]
    simp only [ic57_26, ob57, Hlf.av, Hlf.zero, Pat.av, Pat.zero, items, wkA, Nat.reduceEqDiff, Nat.reduceAdd, Nat.reduceSub, Nat.reduceLeDiff, Nat.reduceLT, Nat.reduceBEq, Nat.reduceBNe, reduceCtorEq, List.length_map, e1]
    rfl
  · rw [decide_eq_false h] at e1
    rw [if_neg h]
    have f := fun ex => seg57_25 first l (beginS l) (i64 b) ex hl (by omega) hr
    simp only [ob57, Hlf.av, Hlf.zero, Pat.av, Pat.zero, items, wkA, Nat.reduceEqDiff, Nat.reduceAdd, Nat.reduceSub, Nat.reduceLeDiff, Nat.reduceLT, Nat.reduceBEq, Nat.reduceBNe, reduceCtorEq] at f
    simp only [ic57_26, ob57, Hlf.av, Hlf.zero, Pat.av, Pat.zero, items, wkA, Nat.reduceEqDiff, Nat.reduceAdd, Nat.reduceSub, Nat.reduceLeDiff, Nat.reduceLT, Nat.reduceBEq, Nat.reduceBNe, reduceCtorEq, List.length_map, e1]
    exact f _
def I57b (first : Bool) (l : List El) (b : Int) (j : Nat) (st : St) : Prop := ∃ (k : Nat), j = l.length - k ∧ k ≤ l.length ∧ st = ⟨[(0, .sl 4 (l.map El.av)), (1, i64 b), (2, .bool first), (6, .box 6 0), (7, .box 7 0), (8, i64 k)], ob57⟩ ∧ beginS l = k + beginS (l.drop k)
theorem beginS_cons (e : El) (l : List El) : beginS (e :: l) = if e.body = true then 0 else beginS l + 1 := by
  rw [beginS, List.takeWhile_cons]
  cases h : e.body <;> simp [beginS]
theorem con57N (l : List El) (b : Int) (first : Bool) (hl : l.length < 90000) (hr : ∀ e ∈ l, 0 ≤ e.t.r ∧ e.t.r < 2097152) : Fn 57 [.sl 4 (l.map El.av), i64 b, .bool first] (resH (hlfN l b first)) := by
  refine e57 (by simp) ?_
  simp only [ic57, wkA, Nat.reduceEqDiff, Nat.reduceAdd, Nat.reduceSub, Nat.reduceLeDiff, Nat.reduceLT, Nat.reduceBEq, Nat.reduceBNe, reduceCtorEq]
  refine ⟨I57b first l b, l.length, _, Gh.refl _, ⟨0, rfl, by omega, rfl, by simp⟩, ?_⟩
  rintro j st ⟨k, rfl, hk, rfl, hb⟩
  have out : beginS l = k → ∀ ex, VC F.e0 ic57_26 (qH (hlfN l b first)) ⟨(0, .sl 4 (l.map El.av)) :: (1, i64 b) :: (2, .bool first) :: (6, .box 6 0) :: (7, .box 7 0) :: (8, i64 k) :: ex, ob57⟩ := by
    intro h ex
    have := seg57_26 first l b ex hl hr
    rwa [h] at this
  simp only [ob57, Hlf.av, Hlf.zero, Pat.av, Pat.zero, items, wkA, Nat.reduceEqDiff, Nat.reduceAdd, Nat.reduceSub, Nat.reduceLeDiff, Nat.reduceLT, Nat.reduceBEq, Nat.reduceBNe, reduceCtorEq] at out
  by_cases hlt : k < l.length
  · have h0 : decide ((k : Int) < (l.length : Int)) = true := decide_eq_true (by omega)
    have w1 : IntKind.i64.wrap ((k : Int) + 1) = ((k + 1 : Nat) : Int) := by rw [wrap64] <;> omega
    have hg := getEl hlt
    have c87 := con87 (l.getD k elZ)
    simp only [El.av] at hg c87
    rw [drop_getE hlt, beginS_cons] at hb
    cases hbd : (l.getD k elZ).body with
    | true =>
      rw [hbd] at c87
      rw [hbd, if_pos rfl] at hb
      simp only [ic57_2, ob57, Hlf.av, Hlf.zero, Pat.av, Pat.zero, items, wkA, Nat.reduceEqDiff, Nat.reduceAdd, Nat.reduceSub, Nat.reduceLeDiff, Nat.reduceLT, Nat.reduceBEq, Nat.reduceBNe, reduceCtorEq, List.length_map, h0, Int.toNat_natCast, hg]
      refine ⟨⟨by omega, by omega⟩, callF c87 rfl ?_⟩
      simp only [wkA, Nat.reduceEqDiff, Nat.reduceAdd, Nat.reduceSub, Nat.reduceLeDiff, Nat.reduceLT, Nat.reduceBEq, Nat.reduceBNe, reduceCtorEq, Bool.not_true]
      exact out (by omega) _
    | false =>
      rw [hbd] at c87
      rw [hbd, if_neg (by simp)] at hb
      simp only [ic57_2, ob57, Hlf.av, Hlf.zero, Pat.av, Pat.zero, items, wkA, Nat.reduceEqDiff, Nat.reduceAdd, Nat.reduceSub, Nat.reduceLeDiff, Nat.reduceLT, Nat.reduceBEq, Nat.reduceBNe, reduceCtorEq, List.length_map, h0, Int.toNat_natCast, hg]
      refine ⟨⟨by omega, by omega⟩, callF c87 rfl ?_⟩
      simp only [wkA, Nat.reduceEqDiff, Nat.reduceAdd, Nat.reduceSub, Nat.reduceLeDiff, Nat.reduceLT, Nat.reduceBEq, Nat.reduceBNe, reduceCtorEq, Bool.not_false]
      simp only [ic57_1, wkA, Nat.reduceEqDiff, Nat.reduceAdd, Nat.reduceSub, Nat.reduceLeDiff, Nat.reduceLT, Nat.reduceBEq, Nat.reduceBNe, reduceCtorEq, w1]
      exact ⟨_, l.length - (k + 1), Gh.refl _, by omega, k + 1, rfl, by omega, rfl, by omega⟩
  · have h0 : decide ((k : Int) < (l.length : Int)) = false := decide_eq_false (by omega)
    have hd : l.drop k = [] := List.drop_of_length_le (by omega)
    rw [hd] at hb
    simp only [ic57_2, ob57, Hlf.av, Hlf.zero, Pat.av, Pat.zero, items, wkA, Nat.reduceEqDiff, Nat.reduceAdd, Nat.reduceSub, Nat.reduceLeDiff, Nat.reduceLT, Nat.reduceBEq, Nat.reduceBNe, reduceCtorEq, List.length_map, h0]
    exact out (by rw [hb]; simp [beginS]) _
theorem hlfN_eq (l : List El) (b : Int) (first : Bool) : hlfN l b first = halfS l b first := by
  unfold hlfN halfS
  have hle := beginS_le l
  simp only
  generalize hn : beginS l = n at *
  by_cases h : n = l.length
  · rw [if_pos h, if_pos h]
  · rw [if_neg h, if_neg h]
    unfold padH
    cases padS first n (endS l n) l.length l 0 0 (0, 0) with
    | error f => rfl
    | ok hh =>
      simp only
      unfold parH
      cases itemsT (toksS (l.take n)) with
      | error f => rfl
      | ok x =>
        simp only
        unfold numH
        cases numberS (textS ((l.take (endS l n)).drop n)) with
        | error e =>
          simp only
          rw [List.getD_eq_getElem?_getD, List.getElem?_eq_getElem (show n < l.length by omega)]
          rfl
        | ok p =>
          simp only
          unfold sufH
          cases itemsT (toksS (l.drop (endS l n))) with
          | error f => rfl
          | ok y => rfl
theorem con57 (l : List El) (b : Int) (first : Bool) (hl : l.length < 90000) (hr : ∀ e ∈ l, 0 ≤ e.t.r ∧ e.t.r < 2097152) : Fn 57 [.sl 4 (l.map El.av), i64 b, .bool first] (resH (halfS l b first)) := by
  rw [← hlfN_eq]; exact con57N l b first hl hr
def cntI (l : List (Int × Int)) (k : Int) : Nat := (l.filter fun x => x.1 == k).length
theorem cntI_cons (x : Int × Int) (l : List (Int × Int)) (k : Int) : cntI (x :: l) k = (if (x.1 == k) = true then 1 else 0) + cntI l k := by
  unfold cntI; rw [List.filter_cons]; split
  · simp; omega
  · simp
def four (p : Pat) : List (List (Int × Int)) := [p.pre, p.suf, p.npre, p.nsuf]
def sigT (p : Pat) (k : Int) (j : Nat) : Nat := (((four p).drop j).map fun l => cntI l k).sum
theorem getI {l : List (Int × Int)} {i : Nat} (h : i < l.length) : (l.map itemA).getD i .top = itemA (l.getD i (0, 0)) := by
  simp [List.getD_eq_getElem?_getD, h]
def I53 (p : Pat) (k : Int) (m : Nat) (st : St) : Prop := ∃ (j c : Nat), m = 4 - j ∧ j ≤ 4 ∧ c ≤ 1000 * j ∧ st = ⟨[(1, i64 k), (5, i64 c), (17, .sl 1 ((four p).map items)), (18, i64 4), (19, i64 j)], []⟩ ∧ c + sigT p k j = sigT p k 0
def I53i (p : Pat) (k : Int) (l : List (Int × Int)) (j c0 : Nat) (m : Nat) (st : St) : Prop := ∃ (i c : Nat), m = l.length - i ∧ i ≤ l.length ∧ c ≤ c0 + i ∧ st = ⟨[(1, i64 k), (5, i64 c), (7, items l), (8, i64 i), (17, .sl 1 ((four p).map items)), (18, i64 4), (19, i64 j)], []⟩ ∧ c + cntI (l.drop i) k = c0 + cntI l k
theorem con53 {p : Pat} (k : Int) (hlen : ∀ l ∈ four p, l.length ≤ 1000) : Fn 53 [p.av, i64 k] (i64 (sigT p k 0)) := by
  refine e53 (by simp) ?_
  simp only [ic53, Pat.av, items, wkA, Nat.reduceEqDiff, Nat.reduceAdd, Nat.reduceSub, Nat.reduceLeDiff, Nat.reduceLT, Nat.reduceBEq, Nat.reduceBNe, reduceCtorEq]
  refine ⟨I53 p k, 4, _, Gh.refl _, ⟨0, 0, rfl, by omega, by omega, rfl, by omega⟩, ?_⟩
  rintro m st ⟨j, c, rfl, hj, hcj, rfl, hc⟩
  by_cases hlt : j < 4
  · have h0 : decide ((j : Int) < 4) = true := decide_eq_true (by omega)
    have w1 : IntKind.i64.wrap ((j : Int) + 1) = ((j + 1 : Nat) : Int) := by rw [wrap64] <;> omega
    obtain ⟨l, hl1, hl2, hl3⟩ : ∃ l, ((four p).map items).getD j .top = items l ∧ l ∈ four p ∧ sigT p k j = cntI l k + sigT p k (j + 1) := by
      match j, hlt with
      | 0, _ => exact ⟨p.pre, rfl, by simp [four], by simp [sigT, four]⟩
      | 1, _ => exact ⟨p.suf, rfl, by simp [four], by simp [sigT, four]⟩
      | 2, _ => exact ⟨p.npre, rfl, by simp [four], by simp [sigT, four]⟩
      | 3, _ => exact ⟨p.nsuf, rfl, by simp [four], by simp [sigT, four]⟩
    have hll := hlen l hl2
    have h4 : ((four p).map items).length = 4 := rfl
    simp only [items] at hl1
    simp only [ic53_6, wkA, Nat.reduceEqDiff, Nat.reduceAdd, Nat.reduceSub, Nat.reduceLeDiff, Nat.reduceLT, Nat.reduceBEq, Nat.reduceBNe, reduceCtorEq, h0]
    simp only [ic53_5, wkA, Nat.reduceEqDiff, Nat.reduceAdd, Nat.reduceSub, Nat.reduceLeDiff, Nat.reduceLT, Nat.reduceBEq, Nat.reduceBNe, reduceCtorEq, Int.toNat_natCast, h4, hl1, items]
    refine ⟨⟨by omega, by omega⟩, ?_⟩
    refine ⟨I53i p k l j c, l.length, _, Gh.refl _, ⟨0, c, by omega, by omega, by omega, rfl, by simp⟩, ?_⟩
    rintro m st ⟨i, c2, rfl, hi, hci, rfl, hc2⟩
    by_cases hil : i < l.length
    · have i0 : decide ((i : Int) < (l.length : Int)) = true := decide_eq_true (by omega)
      have wi : IntKind.i64.wrap ((i : Int) + 1) = ((i + 1 : Nat) : Int) := by rw [wrap64] <;> omega
      have wc : IntKind.i64.wrap ((c2 : Int) + 1) = ((c2 + 1 : Nat) : Int) := by rw [wrap64] <;> omega
      have hg := getI hil
      have hd : l.drop i = l.getD i (0, 0) :: l.drop (i + 1) := by
        rw [List.drop_eq_getElem_cons hil, List.getD_eq_getElem?_getD, List.getElem?_eq_getElem hil]; rfl
      rw [hd, cntI_cons] at hc2
      simp only [itemA] at hg
      cases hk : ((l.getD i (0, 0)).1 == k) with
      | true =>
        rw [hk, if_pos rfl] at hc2
        simp only [ic53_3, items, wkA, Nat.reduceEqDiff, Nat.reduceAdd, Nat.reduceSub, Nat.reduceLeDiff, Nat.reduceLT, Nat.reduceBEq, Nat.reduceBNe, reduceCtorEq, List.length_map, i0]
        simp only [ic53_2, ic53_1, wkA, Nat.reduceEqDiff, Nat.reduceAdd, Nat.reduceSub, Nat.reduceLeDiff, Nat.reduceLT, Nat.reduceBEq, Nat.reduceBNe, reduceCtorEq, Int.toNat_natCast, List.length_map, itemA, hg, hk, wi, wc]
        refine ⟨⟨by omega, by omega⟩, _, l.length - (i + 1), Gh.refl _, by omega, i + 1, c2 + 1, rfl, by omega, by omega, rfl, by omega⟩
      | false =>
        rw [hk, if_neg (by simp)] at hc2
        simp only [ic53_3, items, wkA, Nat.reduceEqDiff, Nat.reduceAdd, Nat.reduceSub, Nat.reduceLeDiff, Nat.reduceLT, Nat.reduceBEq, Nat.reduceBNe, reduceCtorEq, List.length_map, i0]
        simp only [ic53_2, ic53_1, wkA, Nat.reduceEqDiff, Nat.reduceAdd, Nat.reduceSub, Nat.reduceLeDiff, Nat.reduceLT, Nat.reduceBEq, Nat.reduceBNe, reduceCtorEq, Int.toNat_natCast, List.length_map, itemA, hg, hk, wi]
        refine ⟨⟨by omega, by omega⟩, _, l.length - (i + 1), Gh.refl _, by omega, i + 1, c2, rfl, by omega, by omega, rfl, by omega⟩
    · have i0 : decide ((i : Int) < (l.length : Int)) = false := decide_eq_false (by omega)
      have hd : l.drop i = [] := List.drop_of_length_le (by omega)
      rw [hd] at hc2
      have hz : cntI [] k = 0 := rfl
      simp only [ic53_3, items, wkA, Nat.reduceEqDiff, Nat.reduceAdd, Nat.reduceSub, Nat.reduceLeDiff, Nat.reduceLT, Nat.reduceBEq, Nat.reduceBNe, reduceCtorEq, List.length_map, i0]
      simp only [ic53_4, wkA, Nat.reduceEqDiff, Nat.reduceAdd, Nat.reduceSub, Nat.reduceLeDiff, Nat.reduceLT, Nat.reduceBEq, Nat.reduceBNe, reduceCtorEq, w1]
      refine ⟨_, 4 - (j + 1), Gh.refl _, by omega, j + 1, c2, rfl, by omega, by omega, rfl, by omega⟩
  · have h0 : decide ((j : Int) < 4) = false := decide_eq_false (by omega)
    have hj4 : j = 4 := by omega
    subst hj4
    have hz : sigT p k 4 = 0 := rfl
    have e4 : decide (((4 : Nat) : Int) < 4) = false := rfl
    rw [← hc, hz]
    simp only [ic53_6, wkA, Nat.reduceEqDiff, Nat.reduceAdd, Nat.reduceSub, Nat.reduceLeDiff, Nat.reduceLT, Nat.reduceBEq, Nat.reduceBNe, reduceCtorEq, e4]
    simp only [ic53_7, wkA, Nat.reduceEqDiff, Nat.reduceAdd, Nat.reduceSub, Nat.reduceLeDiff, Nat.reduceLT, Nat.reduceBEq, Nat.reduceBNe, reduceCtorEq]
def resC (r : Except Flt Pat) : AV := match r with
  | .error f => .tup [Pat.zero.av, f.av]
  | .ok p => .tup [p.av, (Flt.mk 0 0).av]
abbrev qC (r : Except Flt Pat) : Exit → St → Prop := retQ [(2, some (some 20)), (3, some (some 2))] (resC r)
def finS (p : Pat) : Except Flt Pat := if p.has 4 = true ∧ p.has 5 = true then .error ⟨6, 0⟩ else .ok p
theorem sigT_has (p : Pat) (k : Int) : decide ((sigT p k 0 : Int) > 0) = p.has k := by
  have h : ∀ l : List (Int × Int), (0 < cntI l k) ↔ l.any (fun x => x.1 == k) = true := by
    intro l
    unfold cntI
    rw [List.length_pos_iff, List.any_eq_true]
    constructor
    · intro h
      obtain ⟨x, hx⟩ := List.exists_mem_of_ne_nil _ h
      rw [List.mem_filter] at hx
      exact ⟨x, hx⟩
    · rintro ⟨x, h1, h2⟩ e
      have : x ∈ l.filter fun x => x.1 == k := List.mem_filter.2 ⟨h1, h2⟩
      rw [e] at this
      simp at this
  have a := h p.pre
  have b := h p.suf
  have c := h p.npre
  have d := h p.nsuf
  unfold Pat.has
  rw [List.any_append, List.any_append, List.any_append, Bool.eq_iff_iff, decide_eq_true_eq, Bool.or_eq_true, Bool.or_eq_true, Bool.or_eq_true, ← a, ← b, ← c, ← d]
  simp only [sigT, four, List.drop_zero, List.map_cons, List.map_nil, List.sum_cons, List.sum_nil]
  omega
def obC : List (Nat × Ob) := [(2, .box 26 (avCells Pat.zero.av)), (3, .box 52 [i64 0, i64 0])]
theorem seg31_12 (p : Pat) (hlen : ∀ l ∈ four p, l.length ≤ 1000) (ex : List (Nat × AV)) (oex : List (Nat × Ob)) :
    VC e0 ic31_12 (qC (finS p)) ⟨(2, .box 2 0) :: (3, .box 3 0) :: (13, .box 13 0) :: ex, obC ++ (13, .box 26 (avCells p.av)) :: oex⟩ := by
  have c4 := con53 4 hlen
  have c5 := con53 5 hlen
  have s4 := sigT_has p 4
  have s5 := sigT_has p 5
  generalize sigT p 4 0 = n4 at *
  generalize sigT p 5 0 = n5 at *
  unfold finS
  simp only [Pat.av, items] at c4 c5
  cases h4 : p.has 4 with
  | false =>
    rw [h4] at s4
    rw [if_neg (by simp)]
    simp only [ic31_12, obC, Pat.av, Pat.zero, items, wkA, Nat.reduceEqDiff, Nat.reduceAdd, Nat.reduceSub, Nat.reduceLeDiff, Nat.reduceLT, Nat.reduceBEq, Nat.reduceBNe, reduceCtorEq]
    refine callF c4 rfl ?_
    simp only [wkA, Nat.reduceEqDiff, Nat.reduceAdd, Nat.reduceSub, Nat.reduceLeDiff, Nat.reduceLT, Nat.reduceBEq, Nat.reduceBNe, reduceCtorEq, s4]
    simp only [ic31_11, wkA, Nat.reduceEqDiff, Nat.reduceAdd, Nat.reduceSub, Nat.reduceLeDiff, Nat.reduceLT, Nat.reduceBEq, Nat.reduceBNe, reduceCtorEq]
    rfl
  | true =>
    rw [h4] at s4
    cases h5 : p.has 5 with
    | false =>
      rw [h5] at s5
      rw [if_neg (by simp)]
      simp only [ic31_12, obC, Pat.av, Pat.zero, items, wkA, Nat.reduceEqDiff, Nat.reduceAdd, Nat.reduceSub, Nat.reduceLeDiff, Nat.reduceLT, Nat.reduceBEq, Nat.reduceBNe, reduceCtorEq]
      refine callF c4 rfl ?_
      simp only [wkA, Nat.reduceEqDiff, Nat.reduceAdd, Nat.reduceSub, Nat.reduceLeDiff, Nat.reduceLT, Nat.reduceBEq, Nat.reduceBNe, reduceCtorEq, s4]
      refine callF c5 rfl ?_
      simp only [wkA, Nat.reduceEqDiff, Nat.reduceAdd, Nat.reduceSub, Nat.reduceLeDiff, Nat.reduceLT, Nat.reduceBEq, Nat.reduceBNe, reduceCtorEq, s5]
      simp only [ic31_11, wkA, Nat.reduceEqDiff, Nat.reduceAdd, Nat.reduceSub, Nat.reduceLeDiff, Nat.reduceLT, Nat.reduceBEq, Nat.reduceBNe, reduceCtorEq]
      rfl
    | true =>
      rw [h5] at s5
      rw [if_pos ⟨rfl, rfl⟩]
      simp only [ic31_12, obC, Pat.av, Pat.zero, items, wkA, Nat.reduceEqDiff, Nat.reduceAdd, Nat.reduceSub, Nat.reduceLeDiff, Nat.reduceLT, Nat.reduceBEq, Nat.reduceBNe, reduceCtorEq]
      refine callF c4 rfl ?_
      simp only [wkA, Nat.reduceEqDiff, Nat.reduceAdd, Nat.reduceSub, Nat.reduceLeDiff, Nat.reduceLT, Nat.reduceBEq, Nat.reduceBNe, reduceCtorEq, s4]
      refine callF c5 rfl ?_
      simp only [wkA, Nat.reduceEqDiff, Nat.reduceAdd, Nat.reduceSub, Nat.reduceLeDiff, Nat.reduceLT, Nat.reduceBEq, Nat.reduceBNe, reduceCtorEq, s5]
      rfl
theorem seg31_12b (p : Pat) (a b : AV) (hlen : ∀ l ∈ four p, l.length ≤ 1000) (ex : List (Nat × AV)) (oex : List (Nat × Ob)) :
    VC e0 ic31_12 (qC (finS p)) ⟨(2, .box 2 0) :: (3, .box 3 0) :: (6, a) :: (9, b) :: (13, .box 13 0) :: ex, obC ++ (13, .box 26 (avCells p.av)) :: oex⟩ := by
  have c4 := con53 4 hlen
  have c5 := con53 5 hlen
  have s4 := sigT_has p 4
  have s5 := sigT_has p 5
  generalize sigT p 4 0 = n4 at *
  generalize sigT p 5 0 = n5 at *
  unfold finS
  simp only [Pat.av, items] at c4 c5
  cases h4 : p.has 4 with
  | false =>
    rw [h4] at s4
    rw [if_neg (by simp)]
    simp only [ic31_12, obC, Pat.av, Pat.zero, items, wkA, Nat.reduceEqDiff, Nat.reduceAdd, Nat.reduceSub, Nat.reduceLeDiff, Nat.reduceLT, Nat.reduceBEq, Nat.reduceBNe, reduceCtorEq]
    refine callF c4 rfl ?_
    simp only [wkA, Nat.reduceEqDiff, Nat.reduceAdd, Nat.reduceSub, Nat.reduceLeDiff, Nat.reduceLT, Nat.reduceBEq, Nat.reduceBNe, reduceCtorEq, s4]
    simp only [ic31_11, wkA, Nat.reduceEqDiff, Nat.reduceAdd, Nat.reduceSub, Nat.reduceLeDiff, Nat.reduceLT, Nat.reduceBEq, Nat.reduceBNe, reduceCtorEq]
    rfl
  | true =>
    rw [h4] at s4
    cases h5 : p.has 5 with
    | false =>
      rw [h5] at s5
      rw [if_neg (by simp)]
      simp only [ic31_12, obC, Pat.av, Pat.zero, items, wkA, Nat.reduceEqDiff, Nat.reduceAdd, Nat.reduceSub, Nat.reduceLeDiff, Nat.reduceLT, Nat.reduceBEq, Nat.reduceBNe, reduceCtorEq]
      refine callF c4 rfl ?_
      simp only [wkA, Nat.reduceEqDiff, Nat.reduceAdd, Nat.reduceSub, Nat.reduceLeDiff, Nat.reduceLT, Nat.reduceBEq, Nat.reduceBNe, reduceCtorEq, s4]
      refine callF c5 rfl ?_
      simp only [wkA, Nat.reduceEqDiff, Nat.reduceAdd, Nat.reduceSub, Nat.reduceLeDiff, Nat.reduceLT, Nat.reduceBEq, Nat.reduceBNe, reduceCtorEq, s5]
      simp only [ic31_11, wkA, Nat.reduceEqDiff, Nat.reduceAdd, Nat.reduceSub, Nat.reduceLeDiff, Nat.reduceLT, Nat.reduceBEq, Nat.reduceBNe, reduceCtorEq]
      rfl
    | true =>
      rw [h5] at s5
      rw [if_pos ⟨rfl, rfl⟩]
      simp only [ic31_12, obC, Pat.av, Pat.zero, items, wkA, Nat.reduceEqDiff, Nat.reduceAdd, Nat.reduceSub, Nat.reduceLeDiff, Nat.reduceLT, Nat.reduceBEq, Nat.reduceBNe, reduceCtorEq]
      refine callF c4 rfl ?_
      simp only [wkA, Nat.reduceEqDiff, Nat.reduceAdd, Nat.reduceSub, Nat.reduceLeDiff, Nat.reduceLT, Nat.reduceBEq, Nat.reduceBNe, reduceCtorEq, s4]
      refine callF c5 rfl ?_
      simp only [wkA, Nat.reduceEqDiff, Nat.reduceAdd, Nat.reduceSub, Nat.reduceLeDiff, Nat.reduceLT, Nat.reduceBEq, Nat.reduceBNe, reduceCtorEq, s5]
      rfl
theorem padS_err (first : Bool) (n fin len : Nat) : ∀ (l : List El) (i pads : Nat) (h : Nat × Int) {f : Flt}, padS first n fin len l i pads h = .error f → f.e ≠ 0 := by
  intro l
  induction l with
  | nil => intro i pads h f e; cases e
  | cons x l ih =>
    intro i pads h f e
    rw [padS] at e
    split at e
    · exact ih _ _ _ e
    · split at e
      · injection e with e; subst e; simp
      · exact ih _ _ _ e
theorem halfS_err {l : List El} {b : Int} {first : Bool} {f : Flt} (h : halfS l b first = .error f) : f.e ≠ 0 := by
  unfold halfS at h
  simp only at h
  split at h
  · injection h with h; subst h; simp
  · split at h
    · rename_i g hg
      injection h with h; subst h
      exact padS_err _ _ _ _ _ _ _ _ hg
    · split at h
      · rename_i g hg
        injection h with h; subst h
        exact itemsT_err hg
      · split at h
        · rename_i g hg
          injection h with h; subst h
          exact numberS_err hg
        · split at h
          · rename_i g hg
            injection h with h; subst h
            exact itemsT_err hg
          · cases h
theorem neI {x y : Int} : (x != y) = decide (x ≠ y) := by rw [Bool.eq_iff_iff, bne_iff_ne, decide_eq_true_eq]
def semiI (o : Option Nat) : Int := match o with
  | none => -1
  | some k => k
def secS (p : Pat) (all : List El) (o : Option Nat) : Except Flt Pat := match o with
  | none => finS p
  | some k => match halfS (all.drop (k + 1)) ((all.getD k elZ).t.at_ + 1) false with
    | .error f => .error f
    | .ok b => finS { p with hasNeg := true, npre := b.pre, nsuf := b.suf }
theorem seg31_13 (p : Pat) (a : Hlf) (all : List El) (o : Option Nat) (ex : List (Nat × AV))
    (hl : all.length < 90000) (hr : ∀ e ∈ all, (0 ≤ e.t.r ∧ e.t.r < 2097152) ∧ e.t.at_ < 1099511627776) (ho : ∀ k, o = some k → k < all.length) (hpre : a.pre.length ≤ 40) (hsuf : a.suf.length ≤ 40) (hp : p.pre.length ≤ 40 ∧ p.suf.length ≤ 40) :
    VC e0 ic31_13 (qC (secS { p with npre := (2, 0) :: a.pre, nsuf := a.suf } all o)) ⟨(2, .box 2 0) :: (3, .box 3 0) :: (6, .sl 4 (all.map El.av)) :: (9, i64 (semiI o)) :: (12, .box 12 0) :: (13, .box 13 0) :: ex,
      obC ++ (12, .box 76 (avCells a.av)) :: (13, .box 26 (avCells p.av)) :: []⟩ := by
  cases o with
  | none =>
    have e1 : decide ((-1 : Int) ≥ 0) = false := rfl
    unfold secS semiI
    simp only [ic31_13, obC, Hlf.av, Pat.av, Pat.zero, items, itemA, wkA, Nat.reduceEqDiff, Nat.reduceAdd, Nat.reduceSub, Nat.reduceLeDiff, Nat.reduceLT, Nat.reduceBEq, Nat.reduceBNe, reduceCtorEq, e1, List.length_map]
    refine ⟨by omega, ?_⟩
    have := seg31_12b { p with npre := (2, 0) :: a.pre, nsuf := a.suf } (.sl 4 (all.map El.av)) (i64 (-1)) (by
      intro l hl
      simp only [four, List.mem_cons, List.not_mem_nil, or_false] at hl
      rcases hl with rfl | rfl | rfl | rfl <;> (try simp) <;> omega) [(140, .bool false)] []
    simp only [obC, Pat.av, Pat.zero, items, itemA, wkA, Nat.reduceEqDiff, Nat.reduceAdd, Nat.reduceSub, Nat.reduceLeDiff, Nat.reduceLT, Nat.reduceBEq, Nat.reduceBNe, reduceCtorEq] at this
    exact this
  | some k =>
    have hk := ho k rfl
    have e1 : decide (((k : Nat) : Int) ≥ 0) = true := decide_eq_true (by omega)
    have w1 : IntKind.i64.wrap ((k : Int) + 1) = ((k + 1 : Nat) : Int) := by rw [wrap64] <;> omega
    have hg := getEl hk
    have hm : all.getD k elZ ∈ all := by rw [List.getD_eq_getElem?_getD, List.getElem?_eq_getElem hk]; exact List.getElem_mem _
    have hat := (hr _ hm).2
    have w2 : IntKind.i64.wrap (((all.getD k elZ).t.at_ : Int) + 1) = (all.getD k elZ).t.at_ + 1 := by rw [wrap64] <;> omega
    have hd : ((all.map El.av).drop (k + 1)) = ((all.drop (k + 1)).map El.av) := by rw [List.map_drop]
    have ht : ((all.drop (k + 1)).map El.av).take (all.length - (k + 1)) = ((all.drop (k + 1)).map El.av) := List.take_of_length_le (by simp)
    have c := con57 (all.drop (k + 1)) ((all.getD k elZ).t.at_ + 1) false (by simp; omega) (fun e he => (hr e (List.mem_of_mem_drop he)).1)
    simp only [El.av] at hg
    unfold semiI
    simp only
    cases hh : halfS (all.drop (k + 1)) ((all.getD k elZ).t.at_ + 1) false with
    | error f =>
      rw [hh] at c
      have hR : secS { p with npre := (2, 0) :: a.pre, nsuf := a.suf } all (some k) = .error f := by
        unfold secS
        simp only
        rw [hh]
      rw [hR]
      have ef : (f.e != 0) = true := by rw [neI, decide_eq_true_eq]; exact halfS_err hh
      simp only [resH, Hlf.av, Hlf.zero, Pat.av, Pat.zero, items, Flt.av, wkA, Nat.reduceEqDiff, Nat.reduceAdd, Nat.reduceSub, Nat.reduceLeDiff, Nat.reduceLT, Nat.reduceBEq, Nat.reduceBNe, reduceCtorEq] at c
      simp only [ic31_13, obC, Hlf.av, Pat.av, Pat.zero, items, itemA, wkA, Nat.reduceEqDiff, Nat.reduceAdd, Nat.reduceSub, Nat.reduceLeDiff, Nat.reduceLT, Nat.reduceBEq, Nat.reduceBNe, reduceCtorEq, e1, List.length_map]
      refine ⟨by omega, ?_⟩
      simp only [wkA, Nat.reduceEqDiff, Nat.reduceAdd, Nat.reduceSub, Nat.reduceLeDiff, Nat.reduceLT, Nat.reduceBEq, Nat.reduceBNe, reduceCtorEq, w1, Int.toNat_natCast, hg, hd, w2, List.length_map]
      refine ⟨⟨by omega, by omega⟩, ⟨by omega, by omega⟩, ?_⟩
      rw [ht]
      refine callFD c rfl ?_
      simp only [wkA, Nat.reduceEqDiff, Nat.reduceAdd, Nat.reduceSub, Nat.reduceLeDiff, Nat.reduceLT, Nat.reduceBEq, Nat.reduceBNe, reduceCtorEq, ef]
      rfl
    | ok b =>
      have hb := halfS_ok hh
      rw [hh] at c
      have hR : secS { p with npre := (2, 0) :: a.pre, nsuf := a.suf } all (some k) = finS { p with hasNeg := true, npre := b.pre, nsuf := b.suf } := by
        unfold secS
        simp only
        rw [hh]
      rw [hR]
      have f := seg31_12 { p with hasNeg := true, npre := b.pre, nsuf := b.suf } (by
        intro l hl
        simp only [four, List.mem_cons, List.not_mem_nil, or_false] at hl
        rcases hl with rfl | rfl | rfl | rfl <;> (try simp) <;> omega)
      simp only [obC, Pat.av, Pat.zero, items, itemA, wkA, Nat.reduceEqDiff, Nat.reduceAdd, Nat.reduceSub, Nat.reduceLeDiff, Nat.reduceLT, Nat.reduceBEq, Nat.reduceBNe, reduceCtorEq] at f
      simp only [resH, Hlf.av, Pat.av, Pat.zero, items, Flt.av, wkA, Nat.reduceEqDiff, Nat.reduceAdd, Nat.reduceSub, Nat.reduceLeDiff, Nat.reduceLT, Nat.reduceBEq, Nat.reduceBNe, reduceCtorEq] at c
      simp only [ic31_13, obC, Hlf.av, Pat.av, Pat.zero, items, itemA, wkA, Nat.reduceEqDiff, Nat.reduceAdd, Nat.reduceSub, Nat.reduceLeDiff, Nat.reduceLT, Nat.reduceBEq, Nat.reduceBNe, reduceCtorEq, e1, List.length_map]
      refine ⟨by omega, ?_⟩
      simp only [wkA, Nat.reduceEqDiff, Nat.reduceAdd, Nat.reduceSub, Nat.reduceLeDiff, Nat.reduceLT, Nat.reduceBEq, Nat.reduceBNe, reduceCtorEq, w1, Int.toNat_natCast, hg, hd, w2, List.length_map]
      refine ⟨⟨by omega, by omega⟩, ⟨by omega, by omega⟩, ?_⟩
      rw [ht]
      refine callFD c rfl ?_
      have e00 : ((0 : Int) != 0) = false := rfl
      simp only [wkA, Nat.reduceEqDiff, Nat.reduceAdd, Nat.reduceSub, Nat.reduceLeDiff, Nat.reduceLT, Nat.reduceBEq, Nat.reduceBNe, reduceCtorEq, e00]
      simp only [ic31_10, wkA, Nat.reduceEqDiff, Nat.reduceAdd, Nat.reduceSub, Nat.reduceLeDiff, Nat.reduceLT, Nat.reduceBEq, Nat.reduceBNe, reduceCtorEq]
      exact f _ _
theorem bytesS_le (n : Nat) : (bytesS n).length ≤ 4 := by
  unfold bytesS
  split
  · simp
  · split
    · simp
    · split <;> simp
theorem textS_le (l : List El) : (textS l).length ≤ 4 * l.length := by
  unfold textS toksS
  induction l with
  | nil => simp
  | cons e l ih =>
    rw [List.filter_cons]
    split
    · simp only [List.map_cons, List.flatMap_cons, List.length_append, List.length_cons]
      have := bytesS_le e.t.r.toNat
      omega
    · simp only [List.length_cons]; omega
theorem halfS_long {l : List El} {b : Int} {first : Bool} {a : Hlf} (h : halfS l b first = .ok a) : a.long ≤ 4 * l.length := by
  unfold halfS at h
  simp only at h
  split at h
  · cases h
  · split at h
    · cases h
    · split at h
      · cases h
      · split at h
        · cases h
        · split at h
          · cases h
          · injection h with h
            subst h
            simp only
            refine Nat.le_trans (textS_le _) ?_
            simp only [List.length_drop, List.length_take]
            omega
theorem mixN_w {p q : Pat} {sizes : List Nat} {plain : List UInt8} (h : mixN p sizes plain = .ok q) : q.width = p.width := by rw [(mixN_ok h).1]
theorem choN_w {p q : Pat} {sizes : List Nat} {plain fraction all : List UInt8} {point : Bool} (h : choN p sizes plain fraction all point = .ok q) : q.width = p.width := by
  unfold choN at h
  split at h
  · split at h
    · cases h
    · split at h
      · cases h
      · have := mixN_w h; exact this
  · split at h
    · cases h
    · unfold aftN at h
      split at h
      · cases h
      · have := mixN_w h; exact this
theorem allN_w {p q : Pat} {sizes : List Nat} {plain fraction : List UInt8} {point : Bool} (h : allN p sizes plain fraction point = .ok q) : q.width = p.width := by
  unfold allN at h
  split at h
  · cases h
  · have := choN_w h; exact this
theorem bodN_w {p q : Pat} {body : List UInt8} (h : bodN p body = .ok q) : q.width = p.width := by
  unfold bodN at h
  split at h
  · cases h
  · unfold fraN at h
    split at h
    · cases h
    · split at h
      · cases h
      · unfold sizN at h
        split at h
        · cases h
        · have := allN_w h; exact this
theorem numberS_w {s : List UInt8} {q : Pat} (h : numberS s = .ok q) : q.width = 0 := by
  unfold numberS numN at h
  split at h
  · split at h
    · unfold ex3N at h
      split at h
      · cases h
      · split at h
        · cases h
        · rw [bodN_w h]; rfl
    · unfold ex3N at h
      split at h
      · cases h
      · split at h
        · cases h
        · rw [bodN_w h]; rfl
  · rw [bodN_w h]; rfl
theorem halfS_w {l : List El} {b : Int} {first : Bool} {a : Hlf} (h : halfS l b first = .ok a) : a.p.width = 0 := by
  unfold halfS at h
  simp only at h
  split at h
  · cases h
  · split at h
    · cases h
    · split at h
      · cases h
      · split at h
        · cases h
        · rename_i p hp
          split at h
          · cases h
          · injection h with h
            subst h
            exact numberS_w hp
def prO (a : Hlf) : Pat := { a.p with pre := a.pre, suf := a.suf, padAt := a.at_, pad := a.pad, width := if 0 < a.at_ then a.pre.length + a.suf.length + a.long else 0 }
def prP (a : Hlf) : Pat := { prO a with npre := (2, 0) :: a.pre, nsuf := a.suf }
theorem seg31_14 (a : Hlf) (all : List El) (o : Option Nat) (ex : List (Nat × AV)) (oex : List (Nat × Ob))
    (hl : all.length < 90000) (hr : ∀ e ∈ all, (0 ≤ e.t.r ∧ e.t.r < 2097152) ∧ e.t.at_ < 1099511627776) (ho : ∀ k, o = some k → k < all.length) (hpre : a.pre.length ≤ 40) (hsuf : a.suf.length ≤ 40) (hlong : a.long < 1000000) (hw : a.p.width = 0) :
    VC e0 ic31_14 (qC (secS (prP a) all o)) ⟨(2, .box 2 0) :: (3, .box 3 0) :: (5, .box 5 0) :: (6, .sl 4 (all.map El.av)) :: (9, i64 (semiI o)) :: (12, .box 12 0) :: ex,
      obC ++ (5, .box 52 [i64 0, i64 0]) :: (12, .box 76 (avCells a.av)) :: []⟩ := by
  have f0 := seg31_13 (prO a) a all o
  have hp : ({ prO a with npre := (2, 0) :: a.pre, nsuf := a.suf } : Pat) = prP a := rfl
  rw [hp] at f0
  have f1 := fun ex => f0 ex hl hr ho hpre hsuf ⟨hpre, hsuf⟩
  clear f0 hp
  generalize secS (prP a) all o = R at *
  generalize semiI o = so at *
  by_cases h0 : 0 < a.at_
  · have e1 : decide ((a.at_ : Int) > 0) = true := decide_eq_true (by omega)
    have w1 : IntKind.i64.wrap ((a.pre.length : Int) + a.suf.length) = ((a.pre.length + a.suf.length : Nat) : Int) := by rw [wrap64] <;> omega
    have w2 : IntKind.i64.wrap (((a.pre.length + a.suf.length : Nat) : Int) + a.long) = ((a.pre.length + a.suf.length + a.long : Nat) : Int) := by rw [wrap64] <;> omega
    simp only [prO, if_pos h0] at f1
    clear hr ho
    simp only [obC, Hlf.av, Pat.av, Pat.zero, items, itemA, wkA, Nat.reduceEqDiff, Nat.reduceAdd, Nat.reduceSub, Nat.reduceLeDiff, Nat.reduceLT, Nat.reduceBEq, Nat.reduceBNe, reduceCtorEq, List.length_map] at f1
    simp only [ic31_14, obC, Hlf.av, Pat.av, Pat.zero, items, itemA, wkA, Nat.reduceEqDiff, Nat.reduceAdd, Nat.reduceSub, Nat.reduceLeDiff, Nat.reduceLT, Nat.reduceBEq, Nat.reduceBNe, reduceCtorEq, List.length_map, e1, w1, w2]
    exact f1 _
  · have e1 : decide ((a.at_ : Int) > 0) = false := decide_eq_false (by omega)
    simp only [prO, if_neg h0] at f1
    clear hr ho
    simp only [obC, Hlf.av, Pat.av, Pat.zero, items, itemA, wkA, Nat.reduceEqDiff, Nat.reduceAdd, Nat.reduceSub, Nat.reduceLeDiff, Nat.reduceLT, Nat.reduceBEq, Nat.reduceBNe, reduceCtorEq, List.length_map, hw] at f1
    simp only [ic31_14, obC, Hlf.av, Pat.av, Pat.zero, items, itemA, wkA, Nat.reduceEqDiff, Nat.reduceAdd, Nat.reduceSub, Nat.reduceLeDiff, Nat.reduceLT, Nat.reduceBEq, Nat.reduceBNe, reduceCtorEq, List.length_map, e1, hw]
    exact f1 _
def fstS (ahead all : List El) (o : Option Nat) : Except Flt Pat := match halfS ahead 0 true with
  | .error f => .error f
  | .ok a => secS (prP a) all o
theorem seg31_15 (ahead all : List El) (o : Option Nat) (c e2 : Int) (ex : List (Nat × AV))
    (hl : all.length < 90000) (hr : ∀ e ∈ all, (0 ≤ e.t.r ∧ e.t.r < 2097152) ∧ e.t.at_ < 1099511627776) (ho : ∀ k, o = some k → k < all.length) (ha : ahead.length ≤ all.length) (hra : ∀ e ∈ ahead, e ∈ all) :
    VC e0 ic31_15 (qC (fstS ahead all o)) ⟨(2, .box 2 0) :: (3, .box 3 0) :: (5, .box 5 0) :: (6, .sl 4 (all.map El.av)) :: (9, i64 (semiI o)) :: (11, .sl 4 (ahead.map El.av)) :: ex,
      obC ++ (5, .box 52 [i64 c, i64 e2]) :: []⟩ := by
  have c57 := con57 ahead 0 true (by omega) (fun e he => (hr e (hra e he)).1)
  cases hh : halfS ahead 0 true with
  | error f =>
    rw [hh] at c57
    have hR : fstS ahead all o = .error f := by unfold fstS; rw [hh]
    rw [hR]
    have ef : (f.e != 0) = true := by rw [neI, decide_eq_true_eq]; exact halfS_err hh
    generalize semiI o = so at *
    simp only [resH, Hlf.av, Hlf.zero, Pat.av, Pat.zero, items, Flt.av, wkA, Nat.reduceEqDiff, Nat.reduceAdd, Nat.reduceSub, Nat.reduceLeDiff, Nat.reduceLT, Nat.reduceBEq, Nat.reduceBNe, reduceCtorEq] at c57
    simp only [ic31_15, obC, Pat.av, Pat.zero, items, wkA, Nat.reduceEqDiff, Nat.reduceAdd, Nat.reduceSub, Nat.reduceLeDiff, Nat.reduceLT, Nat.reduceBEq, Nat.reduceBNe, reduceCtorEq]
    refine callF c57 rfl ?_
    simp only [wkA, Nat.reduceEqDiff, Nat.reduceAdd, Nat.reduceSub, Nat.reduceLeDiff, Nat.reduceLT, Nat.reduceBEq, Nat.reduceBNe, reduceCtorEq, ef]
    rfl
  | ok a =>
    obtain ⟨h1, h2, h3⟩ := halfS_ok hh
    have hlg := halfS_long hh
    have f := fun ex => seg31_14 a all o ex [] hl hr ho h2 h3 (by omega) (halfS_w hh)
    rw [hh] at c57
    have hR : fstS ahead all o = secS (prP a) all o := by unfold fstS; rw [hh]
    rw [hR]
    generalize secS (prP a) all o = R at *
    generalize semiI o = so at *
    have e00 : ((0 : Int) != 0) = false := rfl
    simp only [obC, Hlf.av, Pat.av, Pat.zero, items, wkA, Nat.reduceEqDiff, Nat.reduceAdd, Nat.reduceSub, Nat.reduceLeDiff, Nat.reduceLT, Nat.reduceBEq, Nat.reduceBNe, reduceCtorEq] at f
    simp only [resH, Hlf.av, Pat.av, Pat.zero, items, Flt.av, wkA, Nat.reduceEqDiff, Nat.reduceAdd, Nat.reduceSub, Nat.reduceLeDiff, Nat.reduceLT, Nat.reduceBEq, Nat.reduceBNe, reduceCtorEq] at c57
    simp only [ic31_15, obC, Pat.av, Pat.zero, items, wkA, Nat.reduceEqDiff, Nat.reduceAdd, Nat.reduceSub, Nat.reduceLeDiff, Nat.reduceLT, Nat.reduceBEq, Nat.reduceBNe, reduceCtorEq]
    refine callF c57 rfl ?_
    simp only [wkA, Nat.reduceEqDiff, Nat.reduceAdd, Nat.reduceSub, Nat.reduceLeDiff, Nat.reduceLT, Nat.reduceBEq, Nat.reduceBNe, reduceCtorEq, e00]
    exact f _
def ahdS (all : List El) (o : Option Nat) : List El := match o with
  | some k => all.take k
  | none => all
theorem seg31_16 (all : List El) (o : Option Nat) (c e2 : Int) (ex : List (Nat × AV))
    (hl : all.length < 90000) (hr : ∀ e ∈ all, (0 ≤ e.t.r ∧ e.t.r < 2097152) ∧ e.t.at_ < 1099511627776) (ho : ∀ k, o = some k → k < all.length) :
    VC e0 ic31_16 (qC (fstS (ahdS all o) all o)) ⟨(2, .box 2 0) :: (3, .box 3 0) :: (5, .box 5 0) :: (6, .sl 4 (all.map El.av)) :: (9, i64 (semiI o)) :: ex,
      obC ++ (5, .box 52 [i64 c, i64 e2]) :: []⟩ := by
  cases o with
  | none =>
    have f := fun ex => seg31_15 all all none c e2 ex hl hr ho (Nat.le_refl _) (fun e h => h)
    have e1 : decide ((-1 : Int) ≥ 0) = false := rfl
    unfold semiI ahdS at *
    simp only [obC, Pat.av, Pat.zero, items, wkA, Nat.reduceEqDiff, Nat.reduceAdd, Nat.reduceSub, Nat.reduceLeDiff, Nat.reduceLT, Nat.reduceBEq, Nat.reduceBNe, reduceCtorEq] at f
    simp only [ic31_16, obC, Pat.av, Pat.zero, items, wkA, Nat.reduceEqDiff, Nat.reduceAdd, Nat.reduceSub, Nat.reduceLeDiff, Nat.reduceLT, Nat.reduceBEq, Nat.reduceBNe, reduceCtorEq, e1]
    exact f _
  | some k =>
    have hk := ho k rfl
    have f := fun ex => seg31_15 (all.take k) all (some k) c e2 ex hl hr ho (by simp; omega) (fun e h => List.mem_of_mem_take h)
    have e1 : decide (((k : Nat) : Int) ≥ 0) = true := decide_eq_true (by omega)
    have ht : (all.map El.av).take k = (all.take k).map El.av := by rw [List.map_take]
    unfold semiI ahdS at *
    simp only [obC, Pat.av, Pat.zero, items, wkA, Nat.reduceEqDiff, Nat.reduceAdd, Nat.reduceSub, Nat.reduceLeDiff, Nat.reduceLT, Nat.reduceBEq, Nat.reduceBNe, reduceCtorEq] at f
    simp only [ic31_16, obC, Pat.av, Pat.zero, items, wkA, Nat.reduceEqDiff, Nat.reduceAdd, Nat.reduceSub, Nat.reduceLeDiff, Nat.reduceLT, Nat.reduceBEq, Nat.reduceBNe, reduceCtorEq, e1, List.length_map, Int.toNat_natCast, Int.toNat_zero, Nat.sub_zero]
    refine ⟨⟨by omega, by omega, by omega⟩, ?_⟩
    rw [ht]
    exact f _
def smiS (all : List El) (r : Except Flt (Option Nat)) : Except Flt Pat := match r with
  | .error f => .error f
  | .ok o => fstS (ahdS all o) all o
theorem semiS_cons (e : El) (l : List El) (i : Nat) (o : Option Nat) : semiS (e :: l) i o = if e.plain 59 = true then (match o with | some _ => .error ⟨4, e.t.at_⟩ | none => semiS l (i + 1) (some i)) else semiS l (i + 1) o := by
  cases o <;> rfl
def I17c (all : List El) (c e2 : Int) (m : Nat) (st : St) : Prop := ∃ (i : Nat) (o : Option Nat), m = all.length - i ∧ i ≤ all.length ∧ (∀ k, o = some k → k < i) ∧
  st = ⟨[(2, .box 2 0), (3, .box 3 0), (5, .box 5 0), (6, .sl 4 (all.map El.av)), (9, i64 (semiI o)), (10, i64 i)], obC ++ [(5, .box 52 [i64 c, i64 e2])]⟩ ∧
  semiS all 0 none = semiS (all.drop i) i o
theorem seg31_17 (all : List El) (c e2 : Int) (hl : all.length < 90000) (hr : ∀ e ∈ all, (0 ≤ e.t.r ∧ e.t.r < 2097152) ∧ e.t.at_ < 1099511627776) (x4 : AV) (ex : List (Nat × AV)) :
    VC e0 ic31_17 (qC (smiS all (semiS all 0 none))) ⟨(2, .box 2 0) :: (3, .box 3 0) :: (4, x4) :: (5, .box 5 0) :: (6, .own 63) :: ex, obC ++ [(5, .box 52 [i64 c, i64 e2]), (63, .row 73 4 (all.map El.av))]⟩ := by
  generalize hR : smiS all (semiS all 0 none) = R
  simp only [ic31_17, obC, Pat.av, Pat.zero, items, wkA, Nat.reduceEqDiff, Nat.reduceAdd, Nat.reduceSub, Nat.reduceLeDiff, Nat.reduceLT, Nat.reduceBEq, Nat.reduceBNe, reduceCtorEq]
  refine ⟨I17c all c e2, all.length, _, Gh.frz _ 63, ⟨0, none, by omega, by omega, fun k h => by (cases h), ?_, rfl⟩, ?_⟩
  · simp only [obC, Pat.av, Pat.zero, items, wkA, Nat.reduceEqDiff, Nat.reduceAdd, Nat.reduceSub, Nat.reduceLeDiff, Nat.reduceLT, Nat.reduceBEq, Nat.reduceBNe, reduceCtorEq, semiI]; rfl
  rintro m st ⟨i, o, rfl, hi, ho, rfl, hs⟩
  by_cases hlt : i < all.length
  · have h0 : decide ((i : Int) < (all.length : Int)) = true := decide_eq_true (by omega)
    have w1 : IntKind.i64.wrap ((i : Int) + 1) = ((i + 1 : Nat) : Int) := by rw [wrap64] <;> omega
    have hg := getEl hlt
    have c56 := con56 (all.getD i elZ) 59
    have hd := drop_getE hlt
    rw [hd, semiS_cons] at hs
    simp only [El.av] at hg c56
    generalize all.getD i elZ = e at *
    cases hp : e.plain 59 with
    | false =>
      rw [hp] at c56
      rw [hp, if_neg (by simp)] at hs
      generalize hso : semiI o = so at *
      simp only [ic31_9, obC, Pat.av, Pat.zero, items, wkA, Nat.reduceEqDiff, Nat.reduceAdd, Nat.reduceSub, Nat.reduceLeDiff, Nat.reduceLT, Nat.reduceBEq, Nat.reduceBNe, reduceCtorEq, List.length_map, h0]
      simp only [ic31_8, wkA, Nat.reduceEqDiff, Nat.reduceAdd, Nat.reduceSub, Nat.reduceLeDiff, Nat.reduceLT, Nat.reduceBEq, Nat.reduceBNe, reduceCtorEq, List.length_map, Int.toNat_natCast, hg]
      refine ⟨⟨by omega, by omega⟩, ?_⟩
      refine callF c56 rfl ?_
      simp only [wkA, Nat.reduceEqDiff, Nat.reduceAdd, Nat.reduceSub, Nat.reduceLeDiff, Nat.reduceLT, Nat.reduceBEq, Nat.reduceBNe, reduceCtorEq]
      simp only [ic31_7, wkA, Nat.reduceEqDiff, Nat.reduceAdd, Nat.reduceSub, Nat.reduceLeDiff, Nat.reduceLT, Nat.reduceBEq, Nat.reduceBNe, reduceCtorEq, w1]
      refine ⟨_, all.length - (i + 1), Gh.refl _, by omega, i + 1, o, rfl, by omega, fun k h => by have := ho k h; omega, ?_, hs⟩
      rw [hso]; rfl
    | true =>
      rw [hp] at c56
      rw [hp, if_pos rfl] at hs
      cases o with
      | some k =>
        simp only at hs
        have e1 : decide (((k : Nat) : Int) ≥ 0) = true := decide_eq_true (by omega)
        unfold semiI
        rw [hs] at hR
        unfold smiS at hR
        subst hR
        simp only [ic31_9, obC, Pat.av, Pat.zero, items, wkA, Nat.reduceEqDiff, Nat.reduceAdd, Nat.reduceSub, Nat.reduceLeDiff, Nat.reduceLT, Nat.reduceBEq, Nat.reduceBNe, reduceCtorEq, List.length_map, h0]
        simp only [ic31_8, wkA, Nat.reduceEqDiff, Nat.reduceAdd, Nat.reduceSub, Nat.reduceLeDiff, Nat.reduceLT, Nat.reduceBEq, Nat.reduceBNe, reduceCtorEq, List.length_map, Int.toNat_natCast, hg]
        refine ⟨⟨by omega, by omega⟩, ?_⟩
        refine callF c56 rfl ?_
        simp only [wkA, Nat.reduceEqDiff, Nat.reduceAdd, Nat.reduceSub, Nat.reduceLeDiff, Nat.reduceLT, Nat.reduceBEq, Nat.reduceBNe, reduceCtorEq, e1, Int.toNat_natCast, hg, List.length_map, okR, refOk, AV.plain]
        refine ⟨⟨by omega, by omega⟩, ?_⟩
        rfl
      | none =>
        simp only at hs
        have e1 : decide ((-1 : Int) ≥ 0) = false := rfl
        unfold semiI
        simp only [ic31_9, obC, Pat.av, Pat.zero, items, wkA, Nat.reduceEqDiff, Nat.reduceAdd, Nat.reduceSub, Nat.reduceLeDiff, Nat.reduceLT, Nat.reduceBEq, Nat.reduceBNe, reduceCtorEq, List.length_map, h0]
        simp only [ic31_8, wkA, Nat.reduceEqDiff, Nat.reduceAdd, Nat.reduceSub, Nat.reduceLeDiff, Nat.reduceLT, Nat.reduceBEq, Nat.reduceBNe, reduceCtorEq, List.length_map, Int.toNat_natCast, hg]
        refine ⟨⟨by omega, by omega⟩, ?_⟩
        refine callF c56 rfl ?_
        simp only [wkA, Nat.reduceEqDiff, Nat.reduceAdd, Nat.reduceSub, Nat.reduceLeDiff, Nat.reduceLT, Nat.reduceBEq, Nat.reduceBNe, reduceCtorEq, e1]
        simp only [ic31_6, wkA, Nat.reduceEqDiff, Nat.reduceAdd, Nat.reduceSub, Nat.reduceLeDiff, Nat.reduceLT, Nat.reduceBEq, Nat.reduceBNe, reduceCtorEq]
        simp only [ic31_7, wkA, Nat.reduceEqDiff, Nat.reduceAdd, Nat.reduceSub, Nat.reduceLeDiff, Nat.reduceLT, Nat.reduceBEq, Nat.reduceBNe, reduceCtorEq, w1]
        exact ⟨_, all.length - (i + 1), Gh.refl _, by omega, i + 1, some i, rfl, by omega, fun k h => by injection h with h; omega, rfl, hs⟩
  · have h0 : decide ((i : Int) < (all.length : Int)) = false := decide_eq_false (by omega)
    have hd : all.drop i = [] := List.drop_of_length_le (by omega)
    rw [hd, semiS] at hs
    have f := fun ex => seg31_16 all o c e2 ex hl hr (fun k h => by have := ho k h; omega)
    have hR2 : fstS (ahdS all o) all o = R := by rw [← hR, hs]; rfl
    rw [hR2] at f
    generalize semiI o = so at *
    simp only [obC, Pat.av, Pat.zero, items, wkA, Nat.reduceEqDiff, Nat.reduceAdd, Nat.reduceSub, Nat.reduceLeDiff, Nat.reduceLT, Nat.reduceBEq, Nat.reduceBNe, reduceCtorEq] at f
    simp only [ic31_9, obC, Pat.av, Pat.zero, items, wkA, Nat.reduceEqDiff, Nat.reduceAdd, Nat.reduceSub, Nat.reduceLeDiff, Nat.reduceLT, Nat.reduceBEq, Nat.reduceBNe, reduceCtorEq, List.length_map, h0]
    exact f _
def elmS (r : Except Flt (List El)) : Except Flt Pat := match r with
  | .error f => .error f
  | .ok all => smiS all (semiS all 0 none)
def appE (es : List El) (r : Except Flt (List El)) : Except Flt (List El) := match r with
  | .error f => .error f
  | .ok l => .ok (es ++ l)
theorem appE_nil (r : Except Flt (List El)) : appE [] r = r := by cases r <;> rfl
theorem appE_app (es : List El) (e : El) (r : Except Flt (List El)) : appE (es ++ [e]) r = appE es (match r with | .error f => .error f | .ok l => .ok (e :: l)) := by cases r <;> simp [appE]
theorem elemsS_tok {t : Tok} {l : List Tok} (h : ¬ (t.q = false ∧ t.r = 42)) : elemsS (t :: l) = match elemsS l with | .error f => .error f | .ok es => .ok (⟨t, false⟩ :: es) := by
  rw [elemsS.eq_def]; simp only; rw [if_neg h]; cases elemsS l <;> rfl
theorem elemsS_end {t : Tok} (h : t.q = false ∧ t.r = 42) : elemsS [t] = .error ⟨7, t.at_⟩ := by
  rw [elemsS.eq_def]; simp only; rw [if_pos h]
theorem elemsS_pad {t t2 : Tok} {l : List Tok} (h : t.q = false ∧ t.r = 42) : elemsS (t :: t2 :: l) = match elemsS l with | .error f => .error f | .ok es => .ok (⟨⟨t2.r, t.q, t.at_⟩, true⟩ :: es) := by
  rw [elemsS.eq_def]; simp only; rw [if_pos h]; cases elemsS l <;> rfl
def tokZ : Tok := ⟨0, false, 0⟩
theorem getTk {l : List Tok} {i : Nat} (h : i < l.length) : (l.map Tok.av).getD i .top = (l.getD i tokZ).av := by
  simp [List.getD_eq_getElem?_getD, h]
theorem drop_getT {l : List Tok} {i : Nat} (h : i < l.length) : l.drop i = l.getD i tokZ :: l.drop (i + 1) := by
  rw [List.drop_eq_getElem_cons h, List.getD_eq_getElem?_getD, List.getElem?_eq_getElem h]; rfl
def elIn (e : El) : Prop := (0 ≤ e.t.r ∧ e.t.r < 2097152) ∧ e.t.at_ < 1099511627776
def I18c (toks : List Tok) (c e2 : Int) (m : Nat) (st : St) : Prop := ∃ (i : Nat) (es : List El), m = toks.length - i ∧ i ≤ toks.length ∧ es.length ≤ i ∧ (∀ e ∈ es, elIn e) ∧
  st = ⟨[(2, .box 2 0), (3, .box 3 0), (4, .sl 3 (toks.map Tok.av)), (5, .box 5 0), (6, .own 63), (7, i64 i)], obC ++ [(5, .box 52 [i64 c, i64 e2]), (63, .row 73 4 (es.map El.av))]⟩ ∧
  elemsS toks = appE es (elemsS (toks.drop i))
theorem mem_snoc {es : List El} {e : El} (h : ∀ x ∈ es, elIn x) (he : elIn e) : ∀ x ∈ es ++ [e], elIn x := by
  intro x hx
  rcases List.mem_append.1 hx with hx | hx
  · exact h x hx
  · rw [List.mem_singleton.1 hx]; exact he
theorem seg31_18 (toks : List Tok) (c e2 : Int) (hl : toks.length ≤ 400) (hr : ∀ t ∈ toks, (0 ≤ t.r ∧ t.r < 2097152) ∧ t.at_ < 1099511627776) (ex : List (Nat × AV)) :
    VC e0 ic31_18 (qC (elmS (elemsS toks))) ⟨(2, .box 2 0) :: (3, .box 3 0) :: (4, .sl 3 (toks.map Tok.av)) :: (5, .box 5 0) :: ex, obC ++ [(5, .box 52 [i64 c, i64 e2])]⟩ := by
  generalize hR : elmS (elemsS toks) = R
  simp only [ic31_18, obC, Pat.av, Pat.zero, items, wkA, Nat.reduceEqDiff, Nat.reduceAdd, Nat.reduceSub, Nat.reduceLeDiff, Nat.reduceLT, Nat.reduceBEq, Nat.reduceBNe, reduceCtorEq]
  refine ⟨I18c toks c e2, toks.length, _, (Gh.own (t := 6) 73 4 63 rfl (by decide)).trans (Gh.keep _ [2, 3, 4, 5, 6, 7] [2, 3, 5, 63]), ⟨0, [], by omega, by omega, by simp, by simp, rfl, ?_⟩, ?_⟩
  · rw [appE_nil]; rfl
  rintro m st ⟨i, es, rfl, hi, hel, hes, rfl, hs⟩
  by_cases hlt : i < toks.length
  · have h0 : decide ((i : Int) < (toks.length : Int)) = true := decide_eq_true (by omega)
    have w1 : IntKind.i64.wrap ((i : Int) + 1) = ((i + 1 : Nat) : Int) := by rw [wrap64] <;> omega
    have w2 : IntKind.i64.wrap (((i + 1 : Nat) : Int) + 1) = ((i + 2 : Nat) : Int) := by rw [wrap64] <;> omega
    have hg := getTk hlt
    have hm : toks.getD i tokZ ∈ toks := by rw [List.getD_eq_getElem?_getD, List.getElem?_eq_getElem hlt]; exact List.getElem_mem _
    have hb := hr _ hm
    have c56 := con56 ⟨toks.getD i tokZ, false⟩ 42
    have hd := drop_getT hlt
    have hpe : El.plain ⟨toks.getD i tokZ, false⟩ 42 = true ↔ ((toks.getD i tokZ).q = false ∧ (toks.getD i tokZ).r = 42) := by
      unfold El.plain; simp
    rw [hd] at hs
    simp only [Tok.av] at hg
    simp only [El.av] at c56
    generalize toks.getD i tokZ = t at *
    cases hp : El.plain ⟨t, false⟩ 42 with
    | false =>
      rw [hp] at c56 hpe
      rw [elemsS_tok (fun h => by have := hpe.2 h; cases this), ← appE_app] at hs
      simp only [ic31_5, obC, Pat.av, Pat.zero, items, wkA, Nat.reduceEqDiff, Nat.reduceAdd, Nat.reduceSub, Nat.reduceLeDiff, Nat.reduceLT, Nat.reduceBEq, Nat.reduceBNe, reduceCtorEq, List.length_map, h0]
      simp only [ic31_4, wkA, Nat.reduceEqDiff, Nat.reduceAdd, Nat.reduceSub, Nat.reduceLeDiff, Nat.reduceLT, Nat.reduceBEq, Nat.reduceBNe, reduceCtorEq, List.length_map, Int.toNat_natCast, hg]
      refine ⟨⟨by omega, by omega⟩, ?_⟩
      refine callF c56 rfl ?_
      simp only [wkA, Nat.reduceEqDiff, Nat.reduceAdd, Nat.reduceSub, Nat.reduceLeDiff, Nat.reduceLT, Nat.reduceBEq, Nat.reduceBNe, reduceCtorEq]
      simp only [ic31_2, wkA, Nat.reduceEqDiff, Nat.reduceAdd, Nat.reduceSub, Nat.reduceLeDiff, Nat.reduceLT, Nat.reduceBEq, Nat.reduceBNe, reduceCtorEq, List.length_map]
      refine ⟨⟨by omega, by omega⟩, ?_⟩
      simp only [ic31_3, wkA, Nat.reduceEqDiff, Nat.reduceAdd, Nat.reduceSub, Nat.reduceLeDiff, Nat.reduceLT, Nat.reduceBEq, Nat.reduceBNe, reduceCtorEq, w1]
      refine ⟨_, toks.length - (i + 1), Gh.refl _, by omega, i + 1, es ++ [⟨t, false⟩], rfl, by omega, by simp; omega, mem_snoc (e := ⟨t, false⟩) hes hb, ?_, hs⟩
      simp only [obC, Pat.av, Pat.zero, items, List.map_append, List.map_cons, List.map_nil, El.av, List.cons_append, List.nil_append, avCells]
    | true =>
      rw [hp] at c56 hpe
      have ht := hpe.1 rfl
      by_cases hend : i + 1 = toks.length
      · have hd2 : toks.drop (i + 1) = [] := List.drop_of_length_le (by omega)
        have e1 : (((i + 1 : Nat) : Int) == (toks.length : Int)) = true := by rw [beq_iff_eq]; omega
        rw [hd2, elemsS_end ht] at hs
        have hR2 : R = .error ⟨7, t.at_⟩ := by rw [← hR, hs]; rfl
        subst hR2
        simp only [ic31_5, obC, Pat.av, Pat.zero, items, wkA, Nat.reduceEqDiff, Nat.reduceAdd, Nat.reduceSub, Nat.reduceLeDiff, Nat.reduceLT, Nat.reduceBEq, Nat.reduceBNe, reduceCtorEq, List.length_map, h0]
        simp only [ic31_4, wkA, Nat.reduceEqDiff, Nat.reduceAdd, Nat.reduceSub, Nat.reduceLeDiff, Nat.reduceLT, Nat.reduceBEq, Nat.reduceBNe, reduceCtorEq, List.length_map, Int.toNat_natCast, hg]
        refine ⟨⟨by omega, by omega⟩, ?_⟩
        refine callF c56 rfl ?_
        simp only [wkA, Nat.reduceEqDiff, Nat.reduceAdd, Nat.reduceSub, Nat.reduceLeDiff, Nat.reduceLT, Nat.reduceBEq, Nat.reduceBNe, reduceCtorEq, List.length_map, w1, e1]
        rfl
      · have hlt2 : i + 1 < toks.length := by omega
        have e1 : (((i + 1 : Nat) : Int) == (toks.length : Int)) = false := beq_eq_false_iff_ne.2 (by omega)
        have hg2 := getTk hlt2
        have hm2 : toks.getD (i + 1) tokZ ∈ toks := by rw [List.getD_eq_getElem?_getD, List.getElem?_eq_getElem hlt2]; exact List.getElem_mem _
        have hb2 := hr _ hm2
        rw [drop_getT hlt2, elemsS_pad ht, ← appE_app] at hs
        simp only [Tok.av] at hg2
        generalize toks.getD (i + 1) tokZ = t2 at *
        simp only [ic31_5, obC, Pat.av, Pat.zero, items, wkA, Nat.reduceEqDiff, Nat.reduceAdd, Nat.reduceSub, Nat.reduceLeDiff, Nat.reduceLT, Nat.reduceBEq, Nat.reduceBNe, reduceCtorEq, List.length_map, h0]
        simp only [ic31_4, wkA, Nat.reduceEqDiff, Nat.reduceAdd, Nat.reduceSub, Nat.reduceLeDiff, Nat.reduceLT, Nat.reduceBEq, Nat.reduceBNe, reduceCtorEq, List.length_map, Int.toNat_natCast, hg]
        refine ⟨⟨by omega, by omega⟩, ?_⟩
        refine callF c56 rfl ?_
        simp only [wkA, Nat.reduceEqDiff, Nat.reduceAdd, Nat.reduceSub, Nat.reduceLeDiff, Nat.reduceLT, Nat.reduceBEq, Nat.reduceBNe, reduceCtorEq, List.length_map, w1, e1]
        simp only [ic31_1, wkA, Nat.reduceEqDiff, Nat.reduceAdd, Nat.reduceSub, Nat.reduceLeDiff, Nat.reduceLT, Nat.reduceBEq, Nat.reduceBNe, reduceCtorEq, List.length_map, w1, Int.toNat_natCast, hg2]
        refine ⟨⟨by omega, by omega⟩, ?_⟩
        simp only [ic31_2, wkA, Nat.reduceEqDiff, Nat.reduceAdd, Nat.reduceSub, Nat.reduceLeDiff, Nat.reduceLT, Nat.reduceBEq, Nat.reduceBNe, reduceCtorEq, List.length_map]
        refine ⟨⟨by omega, by omega⟩, ?_⟩
        simp only [ic31_3, wkA, Nat.reduceEqDiff, Nat.reduceAdd, Nat.reduceSub, Nat.reduceLeDiff, Nat.reduceLT, Nat.reduceBEq, Nat.reduceBNe, reduceCtorEq, w2]
        refine ⟨_, toks.length - (i + 2), Gh.refl _, by omega, i + 2, es ++ [⟨⟨t2.r, t.q, t.at_⟩, true⟩], rfl, by omega, by simp; omega, mem_snoc (e := ⟨⟨t2.r, t.q, t.at_⟩, true⟩) hes ⟨hb2.1, hb.2⟩, ?_, hs⟩
        simp only [obC, Pat.av, Pat.zero, items, List.map_append, List.map_cons, List.map_nil, El.av, List.cons_append, List.nil_append, avCells]
  · have h0 : decide ((i : Int) < (toks.length : Int)) = false := decide_eq_false (by omega)
    have hd : toks.drop i = [] := List.drop_of_length_le (by omega)
    have he : elemsS [] = .ok [] := rfl
    rw [hd, he] at hs
    have f := fun x4 ex => seg31_17 es c e2 (by omega) hes x4 ex
    have hR2 : smiS es (semiS es 0 none) = R := by rw [← hR, hs]; simp [appE, elmS]
    rw [hR2] at f
    simp only [obC, Pat.av, Pat.zero, items, wkA, Nat.reduceEqDiff, Nat.reduceAdd, Nat.reduceSub, Nat.reduceLeDiff, Nat.reduceLT, Nat.reduceBEq, Nat.reduceBNe, reduceCtorEq] at f
    simp only [ic31_5, obC, Pat.av, Pat.zero, items, wkA, Nat.reduceEqDiff, Nat.reduceAdd, Nat.reduceSub, Nat.reduceLeDiff, Nat.reduceLT, Nat.reduceBEq, Nat.reduceBNe, reduceCtorEq, List.length_map, h0]
    exact f _ _
def tokIn (n : Nat) (t : Tok) : Prop := (0 ≤ t.r ∧ t.r < 2097152) ∧ t.at_ < n
theorem scalarS_in {r : Int} (h : scalarS r = true) : 0 ≤ r ∧ r < 2097152 := by
  unfold scalarS at h
  simp only [Bool.and_eq_true, decide_eq_true_eq] at h
  omega
theorem scanS_in : ∀ (n : Nat) (s : List UInt8) (pos : Nat) (op : Int) (N : Nat), s.length ≤ n → pos + s.length ≤ N → ∀ t ∈ (scanS s pos op).2, tokIn N t
  | n, [], pos, op, N, _, _, t, ht => by rw [scanS_nil] at ht; simp at ht
  | 0, c :: s, pos, op, N, hn, _, t, ht => by simp at hn
  | n + 1, c :: s, pos, op, N, hn, hN, t, ht => by
    have hne : (c :: s) ≠ [] := by simp
    have hlen : (c :: s).length = s.length + 1 := rfl
    by_cases h2 : (firstS (c :: s)).2 = 0
    · rw [scanS, dif_neg hne, dif_pos h2] at ht; simp at ht
    · have hb := firstS_bytes h2
      have hdl : ∀ k, 0 < k → ((c :: s).drop k).length ≤ n := fun k hk => by rw [List.length_drop]; omega
      by_cases h3 : (firstS (c :: s)).1 = 39 ∧ 2 ≤ (c :: s).length ∧ (c :: s).getD 1 0 = 39
      · rw [scanS_two hne h2 h3] at ht
        rcases List.mem_cons.1 ht with rfl | ht
        · exact ⟨⟨by simp, by simp⟩, by simp only; omega⟩
        · exact scanS_in n _ _ _ N (hdl 2 (by omega)) (by rw [List.length_drop]; have := h3.2.1; omega) t ht
      · have hk : (firstS (c :: s)).2 ≤ (c :: s).length := (firstS_le _).1
        by_cases h4 : (firstS (c :: s)).1 = 39
        · rw [scanS_quote hne h2 h3 h4] at ht
          exact scanS_in n _ _ _ N (hdl _ (by omega)) (by rw [List.length_drop]; omega) t ht
        · rw [scanS_other hne h2 h4] at ht
          rcases List.mem_cons.1 ht with rfl | ht
          · exact ⟨scalarS_in hb.2, by simp only; omega⟩
          · exact scanS_in n _ _ _ N (hdl _ (by omega)) (by rw [List.length_drop]; omega) t ht
theorem scanT_in {s : List UInt8} {l : List Tok} (h : scanT s = .ok l) : l.length ≤ 400 ∧ ∀ t ∈ l, tokIn s.length t := by
  unfold scanT at h
  split at h
  · cases h
  · simp only at h
    split at h
    · cases h
    · split at h
      · cases h
      · injection h with h
        subst h
        exact ⟨by omega, scanS_in _ s 0 (-1) _ (Nat.le_refl _) (by omega)⟩
theorem scanT_err {s : List UInt8} {f : Flt} (h : scanT s = .error f) : f.e ≠ 0 := by
  unfold scanT at h
  split at h
  · injection h with h; subst h; simp
  · simp only at h
    split at h
    · injection h with h; subst h; simp
    · split at h
      · injection h with h; subst h; simp
      · cases h
def cmpN (s : List UInt8) : Except Flt Pat := match scanT s with
  | .error f => .error f
  | .ok l => elmS (elemsS l)
theorem con31N {s : List UInt8} (hl : s.length < 1099511627776) : Fn 31 [.str s] (resC (cmpN s)) := by
  have c55 := con55 hl
  refine e31 (by simp) ?_
  change VC e0 ic31 (qC (cmpN s)) _
  unfold scanA at c55
  cases hs : scanT s with
  | error f =>
    rw [hs] at c55
    have hR : cmpN s = .error f := by unfold cmpN; rw [hs]
    rw [hR]
    have ef : (f.e != 0) = true := by rw [neI, decide_eq_true_eq]; exact scanT_err hs
    simp only [Flt.av] at c55
    simp only [ic31, wkA, Nat.reduceEqDiff, Nat.reduceAdd, Nat.reduceSub, Nat.reduceLeDiff, Nat.reduceLT, Nat.reduceBEq, Nat.reduceBNe, reduceCtorEq]
    refine callF c55 rfl ?_
    simp only [wkA, Nat.reduceEqDiff, Nat.reduceAdd, Nat.reduceSub, Nat.reduceLeDiff, Nat.reduceLT, Nat.reduceBEq, Nat.reduceBNe, reduceCtorEq, ef]
    rfl
  | ok l =>
    rw [hs] at c55
    have hR : cmpN s = elmS (elemsS l) := by unfold cmpN; rw [hs]
    rw [hR]
    have hin := scanT_in hs
    have f := seg31_18 l 0 0 hin.1 (fun t ht => ⟨(hin.2 t ht).1, by have := (hin.2 t ht).2; omega⟩)
    generalize elmS (elemsS l) = R at *
    have e00 : ((0 : Int) != 0) = false := rfl
    simp only [obC, Pat.av, Pat.zero, items, wkA, Nat.reduceEqDiff, Nat.reduceAdd, Nat.reduceSub, Nat.reduceLeDiff, Nat.reduceLT, Nat.reduceBEq, Nat.reduceBNe, reduceCtorEq] at f
    simp only [Flt.av] at c55
    simp only [ic31, wkA, Nat.reduceEqDiff, Nat.reduceAdd, Nat.reduceSub, Nat.reduceLeDiff, Nat.reduceLT, Nat.reduceBEq, Nat.reduceBNe, reduceCtorEq]
    refine callF c55 rfl ?_
    simp only [wkA, Nat.reduceEqDiff, Nat.reduceAdd, Nat.reduceSub, Nat.reduceLeDiff, Nat.reduceLT, Nat.reduceBEq, Nat.reduceBNe, reduceCtorEq, e00]
    exact f _
theorem semiS_lt : ∀ (l : List El) (i : Nat) (o : Option Nat) {r : Option Nat}, semiS l i o = .ok r → (∀ k, o = some k → k < i) → ∀ k, r = some k → k < i + l.length
  | [], i, o, r, h, ho, k, hk => by injection h with h; subst h; have := ho k hk; simpa using this
  | e :: l, i, o, r, h, ho, k, hk => by
    rw [semiS_cons] at h
    rw [List.length_cons]
    split at h
    · cases o with
      | some k' => cases h
      | none =>
        have := semiS_lt l (i + 1) (some i) h (fun k' h' => by injection h' with h'; omega) k hk
        omega
    · have := semiS_lt l (i + 1) o h (fun k' h' => by have := ho k' h'; omega) k hk
      omega
theorem cmpN_eq (s : List UInt8) : cmpN s = compileS s := by
  unfold cmpN compileS
  cases scanT s with
  | error f => rfl
  | ok l =>
    simp only
    unfold elmS
    cases elemsS l with
    | error f => rfl
    | ok all =>
      simp only
      unfold smiS
      cases hsm : semiS all 0 none with
      | error f => rfl
      | ok o =>
        have hlt := semiS_lt all 0 none hsm (fun k h => by cases h)
        simp only
        unfold fstS ahdS
        cases o with
        | none =>
          simp only
          cases halfS all 0 true with
          | error f => rfl
          | ok a => rfl
        | some k =>
          simp only
          cases halfS (all.take k) 0 true with
          | error f => rfl
          | ok a =>
            simp only
            unfold secS
            have hk := hlt k rfl
            have hg : ((all[k]?).map fun e => (e.t.at_ : Int)).getD 0 = ((all.getD k elZ).t.at_ : Int) := by
              rw [List.getD_eq_getElem?_getD, List.getElem?_eq_getElem (show k < all.length by omega)]; rfl
            rw [hg]
            simp only
            cases halfS (all.drop (k + 1)) ((all.getD k elZ).t.at_ + 1) false with
            | error f => rfl
            | ok b => rfl
theorem con31 {s : List UInt8} (hl : s.length < 1099511627776) : Fn 31 [.str s] (resC (compileS s)) := by
  rw [← cmpN_eq]; exact con31N hl
def cmpP (s : List UInt8) : Pat := match compileS s with
  | .error _ => Pat.zero
  | .ok p => p
def cmpE (s : List UInt8) : Flt := match compileS s with
  | .error f => f
  | .ok _ => ⟨0, 0⟩
theorem resC_eq (s : List UInt8) : resC (compileS s) = .tup [(cmpP s).av, (cmpE s).av] := by
  unfold resC cmpP cmpE
  cases compileS s <;> rfl
def patG (s : List UInt8) : Bool := ((cmpE s).e == 0) && decide (s.length ≤ 300)
structure Dm where
  neg : Bool
  s : List UInt8
  e : Int
def Dm.av (d : Dm) : AV := D d.neg d.s d.e
theorem CmpOk.ok {p : Pat} (h : CmpOk p) : p.Ok := ⟨h.lens, h.cnt, h.inc⟩
theorem cmpP_ok (s : List UInt8) : CmpOk (cmpP s) := by
  unfold cmpP
  cases h : compileS s with
  | error f => exact ⟨by simp [Pat.zero], ⟨rfl, by simp [Pat.zero], fun h => absurd rfl h⟩, fun h => absurd rfl h, fun h => absurd h (by simp [Pat.zero]), fun _ => rfl, by simp [Pat.zero]⟩
  | ok p => exact compileS_ok h
theorem con80 {neg : Bool} {s : List UInt8} {e p : Int} (h : okD s e) (hp : -1000000 < p ∧ p < 1000000) : Fn 80 [D neg s e, i64 p] (i64 (if dv s = 0 then 0 else if 0 < p - e then p - e else 0)) := by
  have c81 := con81 (neg := neg) h
  have hw := h
  obtain ⟨_, _, _, he1, he2⟩ := h
  refine e80 (by simp) ?_
  by_cases h0 : dv s = 0
  · rw [if_pos h0]
    simp only [h0, decide_true] at c81
    simp only [D, ic80, wkA, Nat.reduceEqDiff, Nat.reduceAdd, Nat.reduceSub, Nat.reduceLeDiff, Nat.reduceLT, Nat.reduceBEq, Nat.reduceBNe, reduceCtorEq] at c81 ⊢
    refine callF c81 rfl ?_
    simp only [wkA, Nat.reduceEqDiff, Nat.reduceAdd, Nat.reduceSub, Nat.reduceLeDiff, Nat.reduceLT, Nat.reduceBEq, Nat.reduceBNe, reduceCtorEq]
  · rw [if_neg h0]
    simp only [h0, decide_false] at c81
    have w1 : IntKind.i64.wrap (p - e) = p - e := by rw [wrap64] <;> omega
    simp only [D, ic80, wkA, Nat.reduceEqDiff, Nat.reduceAdd, Nat.reduceSub, Nat.reduceLeDiff, Nat.reduceLT, Nat.reduceBEq, Nat.reduceBNe, reduceCtorEq] at c81 ⊢
    refine callF c81 rfl ?_
    simp only [ic80_1, wkA, Nat.reduceEqDiff, Nat.reduceAdd, Nat.reduceSub, Nat.reduceLeDiff, Nat.reduceLT, Nat.reduceBEq, Nat.reduceBNe, reduceCtorEq, w1]
theorem con83 {n b : Int} (hb : 0 < b ∧ b < 1000000) (hn : -1000000 < n ∧ n < 1000000) : Fn 83 [i64 n, i64 b] (i64 (n - n % b)) := by
  have h1 : n = n.tmod b + b * n.tdiv b := (Int.tmod_add_mul_tdiv n b).symm
  have h2 := Int.tmod_lt_of_pos n hb.1
  have h3 : -b < n.tmod b := by
    have := Int.tmod_lt_of_pos (-n) hb.1
    rw [Int.neg_tmod] at this
    omega
  have h4 : (n.tdiv b).natAbs ≤ n.natAbs := Int.natAbs_tdiv_le_natAbs n b
  generalize hq : n.tdiv b = q at h1 h4
  generalize hr : n.tmod b = r at h1 h2 h3
  have w1 : IntKind.i64.wrap q = q := by rw [wrap64] <;> omega
  have hb0 : ¬ b = 0 := by omega
  refine e83 (by simp) ?_
  by_cases h0 : r < 0
  · have em : n % b = r + b := by
      have : n = (r + b) + b * (q - 1) := by rw [Int.mul_sub]; omega
      rw [this, Int.add_mul_emod_self_left, Int.emod_eq_of_lt (by omega) (by omega)]
    have w2 : IntKind.i64.wrap (q - 1) = q - 1 := by rw [wrap64] <;> omega
    have hm : (q - 1) * b = n - n % b := by rw [em, Int.sub_mul, Int.mul_comm q b]; omega
    have w3 : IntKind.i64.wrap ((q - 1) * b) = n - n % b := by
      rw [hm, wrap64] <;> omega
    simp only [ic83, wkA, Nat.reduceEqDiff, Nat.reduceAdd, Nat.reduceSub, Nat.reduceLeDiff, Nat.reduceLT, Nat.reduceBEq, Nat.reduceBNe, reduceCtorEq, hq, hr, decide_eq_true h0, w1]
    refine ⟨hb0, hb0, ?_⟩
    simp only [ic83_1, wkA, Nat.reduceEqDiff, Nat.reduceAdd, Nat.reduceSub, Nat.reduceLeDiff, Nat.reduceLT, Nat.reduceBEq, Nat.reduceBNe, reduceCtorEq, w2, w3]
  · have em : n % b = r := by
      rw [h1, Int.add_mul_emod_self_left, Int.emod_eq_of_lt (by omega) (by omega)]
    have hm : q * b = n - n % b := by rw [em, Int.mul_comm q b]; omega
    have w3 : IntKind.i64.wrap (q * b) = n - n % b := by
      rw [hm, wrap64] <;> omega
    simp only [ic83, wkA, Nat.reduceEqDiff, Nat.reduceAdd, Nat.reduceSub, Nat.reduceLeDiff, Nat.reduceLT, Nat.reduceBEq, Nat.reduceBNe, reduceCtorEq, hq, hr, decide_eq_false h0, w1]
    refine ⟨hb0, hb0, ?_⟩
    simp only [ic83_1, wkA, Nat.reduceEqDiff, Nat.reduceAdd, Nat.reduceSub, Nat.reduceLeDiff, Nat.reduceLT, Nat.reduceBEq, Nat.reduceBNe, reduceCtorEq, w3]
theorem con27 (p : Pat) : Fn 27 [p.av] (.bool p.eng) := by
  refine e27 (by simp) ?_
  unfold Pat.eng
  cases h1 : p.sci with
  | false =>
    simp only [Pat.av, items, ic27, wkA, Nat.reduceEqDiff, Nat.reduceAdd, Nat.reduceSub, Nat.reduceLeDiff, Nat.reduceLT, Nat.reduceBEq, Nat.reduceBNe, reduceCtorEq, h1, Bool.false_and]
  | true =>
    have e1 : decide ((p.maxInt : Int) > p.minInt) = decide (p.maxInt > p.minInt) := by rw [decide_eq_decide]; omega
    have e2 : decide ((p.maxInt : Int) > 1) = decide (p.maxInt > 1) := by rw [decide_eq_decide]; omega
    cases h2 : decide (p.maxInt > p.minInt) with
    | false =>
      simp only [Pat.av, items, ic27, wkA, Nat.reduceEqDiff, Nat.reduceAdd, Nat.reduceSub, Nat.reduceLeDiff, Nat.reduceLT, Nat.reduceBEq, Nat.reduceBNe, reduceCtorEq, h1, e1, h2, Bool.false_and]
    | true =>
      simp only [Pat.av, items, ic27, wkA, Nat.reduceEqDiff, Nat.reduceAdd, Nat.reduceSub, Nat.reduceLeDiff, Nat.reduceLT, Nat.reduceBEq, Nat.reduceBNe, reduceCtorEq, h1, e1, h2, e2]
      try rfl
def Pat.wholeR (p : Pat) : Nat := if 0 < p.minSig ∨ (p.eng = true ∧ p.minInt = 0) ∨ (p.minInt = 0 ∧ p.maxFrac = 0) then 1 else p.minInt
theorem con29 {p : Pat} (h : p.Ok) : Fn 29 [p.av] (i64 p.wholeR) := by
  have c27 := con27 p
  have hc := h.cnt
  refine e29 (by simp) ?_
  unfold Pat.wholeR
  have e3 : ((p.minInt : Int) == 0) = decide (p.minInt = 0) := by rw [Bool.eq_iff_iff, beq_iff_eq, decide_eq_true_eq]; omega
  have e4 : ((p.maxFrac : Int) == 0) = decide (p.maxFrac = 0) := by rw [Bool.eq_iff_iff, beq_iff_eq, decide_eq_true_eq]; omega
  by_cases h1 : 0 < p.minSig
  · have e1 : decide ((p.minSig : Int) > 0) = true := decide_eq_true (by omega)
    rw [if_pos (.inl h1)]
    simp only [Pat.av, items, ic29, wkA, Nat.reduceEqDiff, Nat.reduceAdd, Nat.reduceSub, Nat.reduceLeDiff, Nat.reduceLT, Nat.reduceBEq, Nat.reduceBNe, reduceCtorEq, e1]
    rfl
  · have e1 : decide ((p.minSig : Int) > 0) = false := decide_eq_false (by omega)
    by_cases h5 : p.minInt = 0
    · by_cases h6 : p.maxFrac = 0
      · rw [if_pos (.inr (.inr ⟨h5, h6⟩))]
        cases h2 : p.eng with
        | false =>
          rw [h2] at c27
          simp only [Pat.av, items, ic29, wkA, Nat.reduceEqDiff, Nat.reduceAdd, Nat.reduceSub, Nat.reduceLeDiff, Nat.reduceLT, Nat.reduceBEq, Nat.reduceBNe, reduceCtorEq, e1] at c27 ⊢
          refine callF c27 rfl ?_
          simp only [wkA, Nat.reduceEqDiff, Nat.reduceAdd, Nat.reduceSub, Nat.reduceLeDiff, Nat.reduceLT, Nat.reduceBEq, Nat.reduceBNe, reduceCtorEq, e3, decide_eq_true h5, e4, decide_eq_true h6]
          rfl
        | true =>
          rw [h2] at c27
          simp only [Pat.av, items, ic29, wkA, Nat.reduceEqDiff, Nat.reduceAdd, Nat.reduceSub, Nat.reduceLeDiff, Nat.reduceLT, Nat.reduceBEq, Nat.reduceBNe, reduceCtorEq, e1] at c27 ⊢
          refine callF c27 rfl ?_
          simp only [wkA, Nat.reduceEqDiff, Nat.reduceAdd, Nat.reduceSub, Nat.reduceLeDiff, Nat.reduceLT, Nat.reduceBEq, Nat.reduceBNe, reduceCtorEq, e3, decide_eq_true h5, e4, decide_eq_true h6]
          rfl
      · cases h2 : p.eng with
        | false =>
          rw [h2] at c27
          rw [if_neg (by simp [h1, h6])]
          simp only [Pat.av, items, ic29, wkA, Nat.reduceEqDiff, Nat.reduceAdd, Nat.reduceSub, Nat.reduceLeDiff, Nat.reduceLT, Nat.reduceBEq, Nat.reduceBNe, reduceCtorEq, e1] at c27 ⊢
          refine callF c27 rfl ?_
          simp only [wkA, Nat.reduceEqDiff, Nat.reduceAdd, Nat.reduceSub, Nat.reduceLeDiff, Nat.reduceLT, Nat.reduceBEq, Nat.reduceBNe, reduceCtorEq, e3, decide_eq_true h5, e4, decide_eq_false h6]
          simp only [ic29_1, wkA, Nat.reduceEqDiff, Nat.reduceAdd, Nat.reduceSub, Nat.reduceLeDiff, Nat.reduceLT, Nat.reduceBEq, Nat.reduceBNe, reduceCtorEq]
        | true =>
          rw [h2] at c27
          rw [if_pos (.inr (.inl ⟨rfl, h5⟩))]
          simp only [Pat.av, items, ic29, wkA, Nat.reduceEqDiff, Nat.reduceAdd, Nat.reduceSub, Nat.reduceLeDiff, Nat.reduceLT, Nat.reduceBEq, Nat.reduceBNe, reduceCtorEq, e1] at c27 ⊢
          refine callF c27 rfl ?_
          simp only [wkA, Nat.reduceEqDiff, Nat.reduceAdd, Nat.reduceSub, Nat.reduceLeDiff, Nat.reduceLT, Nat.reduceBEq, Nat.reduceBNe, reduceCtorEq, e3, decide_eq_true h5]
          rfl
    · rw [if_neg (by simp [h1, h5])]
      cases h2 : p.eng with
      | false =>
        rw [h2] at c27
        simp only [Pat.av, items, ic29, wkA, Nat.reduceEqDiff, Nat.reduceAdd, Nat.reduceSub, Nat.reduceLeDiff, Nat.reduceLT, Nat.reduceBEq, Nat.reduceBNe, reduceCtorEq, e1] at c27 ⊢
        refine callF c27 rfl ?_
        simp only [wkA, Nat.reduceEqDiff, Nat.reduceAdd, Nat.reduceSub, Nat.reduceLeDiff, Nat.reduceLT, Nat.reduceBEq, Nat.reduceBNe, reduceCtorEq, e3, decide_eq_false h5]
        simp only [ic29_1, wkA, Nat.reduceEqDiff, Nat.reduceAdd, Nat.reduceSub, Nat.reduceLeDiff, Nat.reduceLT, Nat.reduceBEq, Nat.reduceBNe, reduceCtorEq]
      | true =>
        rw [h2] at c27
        simp only [Pat.av, items, ic29, wkA, Nat.reduceEqDiff, Nat.reduceAdd, Nat.reduceSub, Nat.reduceLeDiff, Nat.reduceLT, Nat.reduceBEq, Nat.reduceBNe, reduceCtorEq, e1] at c27 ⊢
        refine callF c27 rfl ?_
        simp only [wkA, Nat.reduceEqDiff, Nat.reduceAdd, Nat.reduceSub, Nat.reduceLeDiff, Nat.reduceLT, Nat.reduceBEq, Nat.reduceBNe, reduceCtorEq, e3, decide_eq_false h5]
        simp only [ic29_1, wkA, Nat.reduceEqDiff, Nat.reduceAdd, Nat.reduceSub, Nat.reduceLeDiff, Nat.reduceLT, Nat.reduceBEq, Nat.reduceBNe, reduceCtorEq]
theorem wholeR_eq (p : Pat) : p.wholeR = p.whole := by
  unfold Pat.wholeR Pat.whole
  by_cases h : p.minInt = 0 <;> by_cases h2 : p.maxFrac = 0 <;> simp [h, h2]
theorem con25 {p : Pat} (h : p.Ok) : Fn 25 [p.av] (.tup [i64 p.least, i64 p.most]) := by
  have c29 := con29 h
  rw [wholeR_eq] at c29
  have hc := h.cnt
  have hw := Pat.whole_le h
  refine e25 (by simp) ?_
  unfold Pat.least Pat.most
  by_cases h1 : 0 < p.minSig
  · have e1 : decide ((p.minSig : Int) > 0) = true := decide_eq_true (by omega)
    rw [if_pos h1, if_pos h1]
    simp only [Pat.av, items, ic25, wkA, Nat.reduceEqDiff, Nat.reduceAdd, Nat.reduceSub, Nat.reduceLeDiff, Nat.reduceLT, Nat.reduceBEq, Nat.reduceBNe, reduceCtorEq, e1]
  · have e1 : decide ((p.minSig : Int) > 0) = false := decide_eq_false (by omega)
    rw [if_neg h1, if_neg h1]
    have w1 : IntKind.i64.wrap ((p.whole : Int) + p.minFrac) = ((p.whole + p.minFrac : Nat) : Int) := by rw [wrap64] <;> omega
    have w2 : IntKind.i64.wrap ((p.whole : Int) + p.maxFrac) = ((p.whole + p.maxFrac : Nat) : Int) := by rw [wrap64] <;> omega
    simp only [Pat.av, items, ic25, wkA, Nat.reduceEqDiff, Nat.reduceAdd, Nat.reduceSub, Nat.reduceLeDiff, Nat.reduceLT, Nat.reduceBEq, Nat.reduceBNe, reduceCtorEq, e1] at c29 ⊢
    simp only [ic25_1, wkA, Nat.reduceEqDiff, Nat.reduceAdd, Nat.reduceSub, Nat.reduceLeDiff, Nat.reduceLT, Nat.reduceBEq, Nat.reduceBNe, reduceCtorEq]
    refine callF c29 rfl ?_
    simp only [wkA, Nat.reduceEqDiff, Nat.reduceAdd, Nat.reduceSub, Nat.reduceLeDiff, Nat.reduceLT, Nat.reduceBEq, Nat.reduceBNe, reduceCtorEq, w1, w2]
theorem digAt_lt {s : List UInt8} {e p : Int} (h : dgs s = true) : digAt s e p < 10 := by
  unfold digAt
  split
  · decide
  · rename_i hp
    have := isDg_iff.1 (dgs_get h (i := s.length - 1 - (p - e).toNat) (by omega))
    omega
def spanN (s : List UInt8) (e f : Int) (n : Nat) : List UInt8 := (List.range n).map fun j : Nat => UInt8.ofNat (48 + digAt s e (f - (j : Int)))
theorem spanN_succ (s : List UInt8) (e f : Int) (n : Nat) : spanN s e f (n + 1) = spanN s e f n ++ [UInt8.ofNat (48 + digAt s e (f - n))] := by simp [spanN, List.range_succ]
theorem spanN_len (s : List UInt8) (e f : Int) (n : Nat) : (spanN s e f n).length = n := by simp [spanN]
set_option maxHeartbeats 4000000 in
theorem walk82 (neg : Bool) (S : ByteArray) (s : List UInt8) (e f : Int) (n : Nat) (hn : n < 100000) (hf : -100000 < f ∧ f < 100000) (hd : dgs s = true) (w : World)
    (h112 : ∀ (W : World) (p : Int), Below w.heap.size w W → -1000000 < p → p < 1000000 → Calls Tryz.prog 112 #[.agg #[.bool neg, .string S, .int .i64 e], .int .i64 p] W fun E W' => E = .returned (.int .i64 (digAt s e p : Nat)) ∧ Below W.heap.size W W') :
    Calls Tryz.prog 82 #[.agg #[.bool neg, .string S, .int .i64 e], .int .i64 f, .int .i64 (f - n + 1)] w fun E w' => E = .returned (.string ⟨(spanN s e f n).toArray⟩) ∧ Below w.heap.size w w' := by
  have H112 := Lib.hid h112
  clear h112
  go_enter Tryz.func82, Tryz.ntmps82
  go_wp2
  go_loopg [8] n (fun gg s8 wr => ∃ k : Nat, k ≤ n ∧ n - k ≤ gg ∧ s8 = .int .i64 (f - k) ∧ Aside (Lib.IsBuilderF 128 5 (w.heap.size + 1) (w.heap.size + 1) (Lib.byteCells (spanN s e f k)) wr) ∧ Aside (Below w.heap.size w wr) ∧ Aside (wr.heap[w.heap.size]? = some (.cells #[.bool neg, .string S, .int .i64 e] 23 (0, 0))))
  case atStart =>
    refine ⟨0, Nat.zero_le _, by omega, by simp, ?_, ?_, ?_⟩
    · exact (.inl ⟨Nat.le_refl _, _, heap_alloc2_new w _ _, World.ownsRowF_nil _ _ _ _, by simp [Value.ownBlock]⟩ : Lib.IsBuilderF 128 5 _ _ _ _)
    · exact ((Below.refl _ w).alloc (Nat.le_refl _) _).alloc (by simp) _
    · exact heap_alloc2_old w _ _
  case round =>
    obtain ⟨k, hk, hg, rfl, HB, HW, HX⟩ := hrel
    by_cases hlt : k < n
    · have hc1 : (f - n + 1 : Int) ≤ f - k := by omega
      have hw : IntKind.i64.wrap (f - k - 1) = f - ((k + 1 : Nat) : Int) := by rw [F.wrap64] <;> omega
      have hb0 := HX.out
      have l0 : wr.cell? ⟨w.heap.size, 0, none⟩ = some (.bool neg) := by rw [Lib.cell_of_heap hb0]; rfl
      have l1 : wr.cell? ⟨w.heap.size, 1, none⟩ = some (.string S) := by rw [Lib.cell_of_heap hb0]; rfl
      have l2 : wr.cell? ⟨w.heap.size, 2, none⟩ = some (.int .i64 e) := by rw [Lib.cell_of_heap hb0]; rfl
      have hcall := H112.out wr (f - k) HW.out (by omega) (by omega)
      have hd10 := digAt_lt (e := e) (p := f - k) hd
      have hbk := HB.out
      obtain ⟨cs0, hcs0⟩ := isb_block hbk
      have hw2 : IntKind.i64.wrap (48 + (digAt s e (f - k) : Nat)) = ((48 + digAt s e (f - k) : Nat) : Int) := by rw [F.wrap64] <;> omega
      have hw3 : IntKind.u8.wrap ((48 + digAt s e (f - k) : Nat) : Int) = ((48 + digAt s e (f - k) : Nat) : Int) := by
        simp only [IntKind.wrap, IntKind.signed, IntKind.bits, Bool.false_and, Bool.false_eq_true, if_false]
        omega
      have hu : Lib.byteCells (spanN s e f (k + 1)) = Lib.byteCells (spanN s e f k) ++ [.int .u8 ((48 + digAt s e (f - k) : Nat) : Int)] := by
        rw [spanN_succ, Lib.byteCells_append]
        have : (UInt8.ofNat (48 + digAt s e (f - k))).toNat = 48 + digAt s e (f - k) := by rw [UInt8.toNat_ofNat']; omega
        simp [Lib.byteCells, this]
        omega
      generalize digAt s e (f - k) = d at *
      have Hu := Lib.hid hu
      have Hc := Lib.hid hcs0
      clear hu hcs0 hb0 hbk
      have Hlen : (Lib.byteCells (spanN s e f k)).length + 1 ≤ 140737488355328 := by rw [Lib.byteCells_length, spanN_len]; omega
      go_wp2_with (first
        | (go_at_call 112; refine hcall.mono ?_; rintro E W1 ⟨rfl, b1⟩)
        | (go_at_call 111; refine (bldByte (w.heap.size + 1) (w.heap.size + 1) _ _ W1 (isb_same HB.out (fun k o hk _ => same_below b1 k o hk)) Hlen (by have := HW.out.size; have := b1.size; have := (Array.getElem?_eq_some_iff.1 Hc.out).1; omega)).mono ?_; rintro E W2 ⟨rfl, h2, b2, k2⟩))
      go_roundg (n - (k + 1))
      case measure => omega
      case rel =>
        refine ⟨k + 1, by omega, by omega, rfl, ?_, ?_, ?_⟩
        · show Lib.IsBuilderF 128 5 _ _ _ _
          rw [Hu.out]
          exact .inr h2
        · exact (HW.out.trans (b1.mono HW.out.size)).trans (b2.mono (by omega))
        · exact (b2.block _ (by omega)).trans (same_below b1 _ _ HX.out)
    · have hc1 : ¬ (f - n + 1 : Int) ≤ f - k := by omega
      obtain rfl : k = n := by omega
      go_wp2_with (go_at_call 104; refine (Tryz.Builder_String_any_k (w.heap.size + 1) (w.heap.size + 1) _ wr HB.out (by have := (Array.getElem?_eq_some_iff.1 (isb_block HB.out).choose_spec).1; omega)).mono ?_; rintro E W1 ⟨rfl, h1, b1, k1⟩)
      go_ret
      exact ⟨rfl, HW.out.trans (b1.mono (by omega))⟩
theorem relL_inv3 {C : Nat → Nat → Prop} {w : World} {x y z : AV} {us : Array Value} (h : RelL C w [x, y, z] us.toList) : ∃ u v t, us = #[u, v, t] ∧ Rel C w x u ∧ Rel C w y v ∧ Rel C w z t := by
  obtain ⟨u, t1, h1, h2, h3⟩ := h.cons_inv
  obtain ⟨v, t2, h4, h5, h6⟩ := h3.cons_inv
  obtain ⟨x, t3, h7, h8, h9⟩ := h6.cons_inv
  have h10 := h9.nil_inv
  subst h10 h7 h4
  exact ⟨u, v, x, by cases us; simp_all, h2, h5, h8⟩
theorem relD_inv {C : Nat → Nat → Prop} {w : World} {neg : Bool} {s : List UInt8} {e : Int} {u : Value} (h : Rel C w (D neg s e) u) : u = .agg #[.bool neg, .string ⟨s.toArray⟩, .int .i64 e] := by
  unfold D at h
  cases h with
  | agg cs us hl hh h1 =>
    obtain ⟨a, t, rfl, ha, ht⟩ := RelL.cons_inv (show RelL C w [.bool neg, .str s, i64 e] us from ⟨hl, hh⟩)
    obtain ⟨b, t', rfl, hb, ht'⟩ := ht.cons_inv
    obtain ⟨c, t'', rfl, hc, ht''⟩ := ht'.cons_inv
    have := ht''.nil_inv
    subst this
    cases ha
    cases hb
    cases hc
    rfl
theorem con82 {neg : Bool} {s : List UInt8} {e f : Int} {n : Nat} (h : okD s e) (hn : n < 100000) (hf : -100000 < f ∧ f < 100000) : Fn 82 [D neg s e, i64 f, i64 (f - n + 1)] (.str (spanN s e f n)) := by
  intro w C us hC hG hr
  obtain ⟨u, v, t, rfl, h1, h2, h3⟩ := relL_inv3 hr
  have hu := relD_inv h1
  subst hu
  cases h2
  cases h3
  refine (walk82 neg ⟨s.toArray⟩ s e f n hn hf h.1 w (fun W p hb hp1 hp2 => ?_)).mono ?_
  · have hcl : ∀ b o, C b o → W.cell? ⟨b, o, none⟩ = w.cell? ⟨b, o, none⟩ := fun b o hc => hb.cell (p := ⟨b, o, none⟩) (hC b o hc)
    refine (con112 (neg := neg) (p := p) h (by omega) W C #[.agg #[.bool neg, .string ⟨s.toArray⟩, .int .i64 e], .int .i64 p] (fun b o hc => Nat.lt_of_lt_of_le (hC b o hc) hb.size) (hG.mono (fun _ _ h => h) hcl) (.cons (h1.mono (fun _ _ h => h) hcl) (.cons (.int _ _) (.nil _ _)))).mono ?_
    rintro E W' ⟨u, C', rfl, hb2, _, _, hu⟩
    cases hu
    exact ⟨rfl, hb2⟩
  · rintro E w' ⟨rfl, hb⟩
    exact ⟨_, C, rfl, hb, fun _ _ h => h, fun b o h => ⟨Nat.lt_of_lt_of_le (hC b o h) hb.size, .inl h⟩, .str _⟩
def shA (neg : Bool) (a b : List UInt8) (x : Int) : AV := .agg [.bool neg, .str a, .str b, i64 x]
def imax (x y : Int) : Int := if x < y then y else x
def fineS (s : List UInt8) (e p : Int) : Int := if dv s = 0 then 0 else if 0 < p - e then p - e else 0
theorem fineS_nn (s : List UInt8) (e p : Int) : 0 ≤ fineS s e p := by unfold fineS; split <;> (try split) <;> omega
def plainN (p : Pat) (s : List UInt8) (e : Int) : Int := if dv s = 0 then (if 0 < p.minSig then 1 else (p.minInt : Int)) else imax (if 0 < p.minSig then 1 else (p.minInt : Int)) (top (dv s) e + 1)
def plainB (p : Pat) (s : List UInt8) (e : Int) : Int := imax (if 0 < p.minSig then (p.minSig : Int) - 1 - top (dv s) e else (p.minFrac : Int)) (fineS s e 0)
theorem con48 {p : Pat} (h : p.Ok) {neg : Bool} {s : List UInt8} {e : Int} (hs : okD s e) (he : -5000 < e ∧ e < 5000) (hl : s.length < 9000) (ht : -20000 < top (dv s) e ∧ top (dv s) e < 20000) :
    Fn 48 [p.av, D neg s e] (shA neg (spanN s e (plainN p s e - 1) (plainN p s e).toNat) (spanN s e (-1) (plainB p s e).toNat) 0) := by
  have c66 := con66 (neg := neg) hs
  have c80 := con80 (neg := neg) (p := 0) hs (by omega)
  have c81 := con81 (neg := neg) hs
  have hc := h.cnt
  change Fn 80 _ (i64 (fineS s e 0)) at c80
  have hf := fineS_nn s e 0
  have hf2 : fineS s e 0 < 6000 := by unfold fineS; split <;> (try split) <;> omega
  have hN : 0 ≤ plainN p s e ∧ plainN p s e < 30000 := by unfold plainN imax; split <;> split <;> (try split) <;> omega
  have hB : 0 ≤ plainB p s e ∧ plainB p s e < 30000 := by unfold plainB imax; split <;> split <;> omega
  have c82 := con82 (neg := neg) (f := plainN p s e - 1) (n := (plainN p s e).toNat) hs (by omega) (by omega)
  rw [show plainN p s e - 1 - ((plainN p s e).toNat : Int) + 1 = 0 by omega] at c82
  have d82 := con82 (neg := neg) (f := -1) (n := (plainB p s e).toNat) hs (by omega) (by omega)
  rw [show -1 - ((plainB p s e).toNat : Int) + 1 = - plainB p s e by omega] at d82
  generalize ha : spanN s e (plainN p s e - 1) (plainN p s e).toNat = a at *
  generalize hb : spanN s e (-1) (plainB p s e).toNat = b at *
  have hw1 : IntKind.i64.wrap (plainN p s e - 1) = plainN p s e - 1 := by rw [wrap64] <;> omega
  have hw2 : IntKind.i64.wrap (0 - plainB p s e) = - plainB p s e := by rw [wrap64] <;> omega
  unfold plainN plainB imax at *
  generalize fineS s e 0 = fi at *
  generalize top (dv s) e = t at *
  have w1 : IntKind.i64.wrap (t + 1) = t + 1 := by rw [wrap64] <;> omega
  have w2 : IntKind.i64.wrap ((p.minSig : Int) - 1) = (p.minSig : Int) - 1 := by rw [wrap64] <;> omega
  have w3 : IntKind.i64.wrap ((p.minSig : Int) - 1 - t) = (p.minSig : Int) - 1 - t := by rw [wrap64] <;> omega
  refine e48 (by simp) ?_
  by_cases h1 : 0 < p.minSig
  · have e1 : decide ((p.minSig : Int) > 0) = true := decide_eq_true (by omega)
    simp only [h1, if_true] at *
    simp only [D, Pat.av, items, ic48, wkA, Nat.reduceEqDiff, Nat.reduceAdd, Nat.reduceSub, Nat.reduceLeDiff, Nat.reduceLT, Nat.reduceBEq, Nat.reduceBNe, reduceCtorEq, e1] at c66 c80 c81 c82 d82 ⊢
    refine callF c66 rfl ?_
    simp only [wkA, Nat.reduceEqDiff, Nat.reduceAdd, Nat.reduceSub, Nat.reduceLeDiff, Nat.reduceLT, Nat.reduceBEq, Nat.reduceBNe, reduceCtorEq, e1, w2, w3]
    simp only [ic48_2, wkA, Nat.reduceEqDiff, Nat.reduceAdd, Nat.reduceSub, Nat.reduceLeDiff, Nat.reduceLT, Nat.reduceBEq, Nat.reduceBNe, reduceCtorEq]
    refine callF c80 rfl ?_
    simp only [wkA, Nat.reduceEqDiff, Nat.reduceAdd, Nat.reduceSub, Nat.reduceLeDiff, Nat.reduceLT, Nat.reduceBEq, Nat.reduceBNe, reduceCtorEq]
    refine callF c81 rfl ?_
    by_cases h0 : dv s = 0
    · have e0 : decide (dv s = 0) = true := decide_eq_true h0
      simp only [h0, if_true] at c82 hw1
      simp only [wkA, Nat.reduceEqDiff, Nat.reduceAdd, Nat.reduceSub, Nat.reduceLeDiff, Nat.reduceLT, Nat.reduceBEq, Nat.reduceBNe, reduceCtorEq, e0, Bool.not_true]
      simp only [ic48_1, wkA, Nat.reduceEqDiff, Nat.reduceAdd, Nat.reduceSub, Nat.reduceLeDiff, Nat.reduceLT, Nat.reduceBEq, Nat.reduceBNe, reduceCtorEq, hw1, hw2, shA]
      refine callFD c82 rfl ?_
      simp only [wkA, Nat.reduceEqDiff, Nat.reduceAdd, Nat.reduceSub, Nat.reduceLeDiff, Nat.reduceLT, Nat.reduceBEq, Nat.reduceBNe, reduceCtorEq, hw2]
      refine callFD d82 rfl ?_
      simp only [wkA, Nat.reduceEqDiff, Nat.reduceAdd, Nat.reduceSub, Nat.reduceLeDiff, Nat.reduceLT, Nat.reduceBEq, Nat.reduceBNe, reduceCtorEq]
    · have e0 : decide (dv s = 0) = false := decide_eq_false h0
      simp only [h0, if_false] at c82 hw1
      simp only [wkA, Nat.reduceEqDiff, Nat.reduceAdd, Nat.reduceSub, Nat.reduceLeDiff, Nat.reduceLT, Nat.reduceBEq, Nat.reduceBNe, reduceCtorEq, e0, Bool.not_false, w1]
      simp only [ic48_1, wkA, Nat.reduceEqDiff, Nat.reduceAdd, Nat.reduceSub, Nat.reduceLeDiff, Nat.reduceLT, Nat.reduceBEq, Nat.reduceBNe, reduceCtorEq, hw1, hw2, shA]
      refine callFD c82 rfl ?_
      simp only [wkA, Nat.reduceEqDiff, Nat.reduceAdd, Nat.reduceSub, Nat.reduceLeDiff, Nat.reduceLT, Nat.reduceBEq, Nat.reduceBNe, reduceCtorEq, hw2]
      refine callFD d82 rfl ?_
      simp only [wkA, Nat.reduceEqDiff, Nat.reduceAdd, Nat.reduceSub, Nat.reduceLeDiff, Nat.reduceLT, Nat.reduceBEq, Nat.reduceBNe, reduceCtorEq]
  · have e1 : decide ((p.minSig : Int) > 0) = false := decide_eq_false (by omega)
    simp only [h1, if_false] at *
    simp only [D, Pat.av, items, ic48, wkA, Nat.reduceEqDiff, Nat.reduceAdd, Nat.reduceSub, Nat.reduceLeDiff, Nat.reduceLT, Nat.reduceBEq, Nat.reduceBNe, reduceCtorEq, e1] at c66 c80 c81 c82 d82 ⊢
    refine callF c66 rfl ?_
    simp only [wkA, Nat.reduceEqDiff, Nat.reduceAdd, Nat.reduceSub, Nat.reduceLeDiff, Nat.reduceLT, Nat.reduceBEq, Nat.reduceBNe, reduceCtorEq, e1]
    simp only [ic48_2, wkA, Nat.reduceEqDiff, Nat.reduceAdd, Nat.reduceSub, Nat.reduceLeDiff, Nat.reduceLT, Nat.reduceBEq, Nat.reduceBNe, reduceCtorEq]
    refine callF c80 rfl ?_
    simp only [wkA, Nat.reduceEqDiff, Nat.reduceAdd, Nat.reduceSub, Nat.reduceLeDiff, Nat.reduceLT, Nat.reduceBEq, Nat.reduceBNe, reduceCtorEq]
    refine callF c81 rfl ?_
    by_cases h0 : dv s = 0
    · have e0 : decide (dv s = 0) = true := decide_eq_true h0
      simp only [h0, if_true] at c82 hw1
      simp only [wkA, Nat.reduceEqDiff, Nat.reduceAdd, Nat.reduceSub, Nat.reduceLeDiff, Nat.reduceLT, Nat.reduceBEq, Nat.reduceBNe, reduceCtorEq, e0, Bool.not_true]
      simp only [ic48_1, wkA, Nat.reduceEqDiff, Nat.reduceAdd, Nat.reduceSub, Nat.reduceLeDiff, Nat.reduceLT, Nat.reduceBEq, Nat.reduceBNe, reduceCtorEq, hw1, hw2, shA]
      refine callFD c82 rfl ?_
      simp only [wkA, Nat.reduceEqDiff, Nat.reduceAdd, Nat.reduceSub, Nat.reduceLeDiff, Nat.reduceLT, Nat.reduceBEq, Nat.reduceBNe, reduceCtorEq, hw2]
      refine callFD d82 rfl ?_
      simp only [wkA, Nat.reduceEqDiff, Nat.reduceAdd, Nat.reduceSub, Nat.reduceLeDiff, Nat.reduceLT, Nat.reduceBEq, Nat.reduceBNe, reduceCtorEq]
    · have e0 : decide (dv s = 0) = false := decide_eq_false h0
      simp only [h0, if_false] at c82 hw1
      simp only [wkA, Nat.reduceEqDiff, Nat.reduceAdd, Nat.reduceSub, Nat.reduceLeDiff, Nat.reduceLT, Nat.reduceBEq, Nat.reduceBNe, reduceCtorEq, e0, Bool.not_false, w1]
      simp only [ic48_1, wkA, Nat.reduceEqDiff, Nat.reduceAdd, Nat.reduceSub, Nat.reduceLeDiff, Nat.reduceLT, Nat.reduceBEq, Nat.reduceBNe, reduceCtorEq, hw1, hw2, shA]
      refine callFD c82 rfl ?_
      simp only [wkA, Nat.reduceEqDiff, Nat.reduceAdd, Nat.reduceSub, Nat.reduceLeDiff, Nat.reduceLT, Nat.reduceBEq, Nat.reduceBNe, reduceCtorEq, hw2]
      refine callFD d82 rfl ?_
      simp only [wkA, Nat.reduceEqDiff, Nat.reduceAdd, Nat.reduceSub, Nat.reduceLeDiff, Nat.reduceLT, Nat.reduceBEq, Nat.reduceBNe, reduceCtorEq]
def sciN (p : Pat) (s : List UInt8) (e : Int) : Int := if p.eng = true then top (dv s) e % p.maxInt + 1 else p.whole
def sciX (p : Pat) (s : List UInt8) (e : Int) : Int := if dv s = 0 then 0 else if p.eng = true then top (dv s) e - top (dv s) e % p.maxInt else top (dv s) e - p.whole + 1
def sciB (p : Pat) (s : List UInt8) (e : Int) : Int := imax (p.least - sciN p s e) (fineS s e (sciX p s e))
theorem eng_max {p : Pat} (h : p.eng = true) : 1 < p.maxInt ∧ p.minInt < p.maxInt := by
  unfold Pat.eng at h
  simp only [Bool.and_eq_true, decide_eq_true_eq] at h
  omega
theorem sci_bd {p : Pat} (h : p.Ok) {s : List UInt8} {e : Int} (he : -5000 < e ∧ e < 5000) (ht : -20000 < top (dv s) e ∧ top (dv s) e < 20000) :
    (0 ≤ sciN p s e ∧ sciN p s e ≤ 40) ∧ (-20100 < sciX p s e ∧ sciX p s e < 20100) ∧ (0 ≤ sciB p s e ∧ sciB p s e < 30000) ∧ (0 ≤ fineS s e (sciX p s e) ∧ fineS s e (sciX p s e) < 26000) := by
  have hc := h.cnt
  have hw := Pat.whole_le h
  have hN : 0 ≤ sciN p s e ∧ sciN p s e ≤ 40 := by
    unfold sciN
    split
    · rename_i hE
      have := eng_max hE
      have h1 := Int.emod_nonneg (top (dv s) e) (b := (p.maxInt : Int)) (by omega)
      have h2 := Int.emod_lt_of_pos (top (dv s) e) (b := (p.maxInt : Int)) (by omega)
      omega
    · omega
  have hX : -20100 < sciX p s e ∧ sciX p s e < 20100 := by
    unfold sciX
    split
    · omega
    · split
      · rename_i hE
        have := eng_max hE
        have h1 := Int.emod_nonneg (top (dv s) e) (b := (p.maxInt : Int)) (by omega)
        have h2 := Int.emod_lt_of_pos (top (dv s) e) (b := (p.maxInt : Int)) (by omega)
        omega
      · omega
  have hf := fineS_nn s e (sciX p s e)
  have hf2 : fineS s e (sciX p s e) < 26000 := by unfold fineS; split <;> (try split) <;> omega
  have hle : p.least ≤ 80 := by unfold Pat.least; split <;> omega
  refine ⟨hN, hX, ?_, hf, hf2⟩
  unfold sciB imax
  split <;> omega
theorem con49 {p : Pat} (h : p.Ok) {neg : Bool} {s : List UInt8} {e : Int} (hs : okD s e) (he : -5000 < e ∧ e < 5000) (hl : s.length < 9000) (ht : -20000 < top (dv s) e ∧ top (dv s) e < 20000) :
    Fn 49 [p.av, D neg s e] (shA neg (spanN s e (sciX p s e + sciN p s e - 1) (sciN p s e).toNat) (spanN s e (sciX p s e - 1) (sciB p s e).toNat) (sciX p s e)) := by
  obtain ⟨hN, hX, hB, hF⟩ := sci_bd h he ht
  have c54 := con54 h
  have c24 := con24 h
  have c26 := con26 p
  have c66 := con66 (neg := neg) hs
  have c80 := con80 (neg := neg) (p := sciX p s e) hs (by omega)
  have c81 := con81 (neg := neg) hs
  have hc := h.cnt
  have hw := Pat.whole_le h
  change Fn 80 _ (i64 (fineS s e (sciX p s e))) at c80
  have c82 := con82 (neg := neg) (f := sciX p s e + sciN p s e - 1) (n := (sciN p s e).toNat) hs (by omega) (by omega)
  rw [show sciX p s e + sciN p s e - 1 - ((sciN p s e).toNat : Int) + 1 = sciX p s e by omega] at c82
  have d82 := con82 (neg := neg) (f := sciX p s e - 1) (n := (sciB p s e).toNat) hs (by omega) (by omega)
  rw [show sciX p s e - 1 - ((sciB p s e).toNat : Int) + 1 = sciX p s e - sciB p s e by omega] at d82
  generalize ha : spanN s e (sciX p s e + sciN p s e - 1) (sciN p s e).toNat = a at *
  generalize hb : spanN s e (sciX p s e - 1) (sciB p s e).toNat = b at *
  have hle : p.least ≤ 80 := by unfold Pat.least; split <;> omega
  have u1 : IntKind.i64.wrap (sciX p s e + sciN p s e) = sciX p s e + sciN p s e := by rw [wrap64] <;> omega
  have u2 : IntKind.i64.wrap (sciX p s e + sciN p s e - 1) = sciX p s e + sciN p s e - 1 := by rw [wrap64] <;> omega
  have u3 : IntKind.i64.wrap (sciX p s e - 1) = sciX p s e - 1 := by rw [wrap64] <;> omega
  have u4 : IntKind.i64.wrap (sciX p s e - sciB p s e) = sciX p s e - sciB p s e := by rw [wrap64] <;> omega
  have u5 : IntKind.i64.wrap ((p.least : Int) - sciN p s e) = (p.least : Int) - sciN p s e := by rw [wrap64] <;> omega
  have uB : sciB p s e = if (p.least : Int) - sciN p s e < fineS s e (sciX p s e) then fineS s e (sciX p s e) else (p.least : Int) - sciN p s e := rfl
  have hx := @rfl _ (sciX p s e)
  have hn := @rfl _ (sciN p s e)
  conv at hx => lhs; unfold sciX
  conv at hn => lhs; unfold sciN
  generalize hsX : sciX p s e = X at *
  generalize hsN : sciN p s e = n at *
  generalize hsB : sciB p s e = B at *
  generalize fineS s e X = fi at *
  have hX0 : dv s = 0 → X = 0 := fun h0 => by rw [← hx, if_pos h0]
  have hX1 : dv s ≠ 0 → X = if p.eng = true then top (dv s) e - top (dv s) e % p.maxInt else top (dv s) e - p.whole + 1 := fun h0 => by rw [← hx, if_neg h0]
  clear hx
  have w1 : IntKind.i64.wrap (top (dv s) e - p.whole) = top (dv s) e - p.whole := by rw [wrap64] <;> omega
  have w2 : IntKind.i64.wrap (top (dv s) e - p.whole + 1) = top (dv s) e - p.whole + 1 := by rw [wrap64] <;> omega
  refine e49 (by simp) ?_
  simp only [D, Pat.av, items] at c54 c24 c26 c66 c80 c81 c82 d82 ⊢
  have tail : VC e0 ic49_1 (retQ [(4, some (some 4))] (shA neg a b X)) ⟨[(2, .box 2 0), (3, .box 3 0), (4, .box 4 0), (5, i64 n), (7, .box 7 0)], [(2, .box 26 [AV.sl 2 (List.map itemA p.pre), AV.sl 2 (List.map itemA p.suf), AV.bool p.hasNeg, AV.sl 2 (List.map itemA p.npre), AV.sl 2 (List.map itemA p.nsuf), i64 p.minInt, i64 p.maxInt, i64 p.minFrac, i64 p.maxFrac, i64 p.minSig, i64 p.maxSig, i64 p.prim, i64 p.sec, AV.str p.inc, AV.bool p.sci, i64 p.minExp, AV.bool p.plusExp, i64 p.padAt, AV.int IntKind.i32 p.pad, i64 p.width]), (3, .box 23 [.bool neg, .str s, i64 e]), (4, .box 39 [.bool false, .str [], .str [], i64 0]), (7, .box 39 [.bool neg, .str [], .str [], i64 X])]⟩ := by
    simp only [ic49_1, wkA, Nat.reduceEqDiff, Nat.reduceAdd, Nat.reduceSub, Nat.reduceLeDiff, Nat.reduceLT, Nat.reduceBEq, Nat.reduceBNe, reduceCtorEq, shA]
    refine callF c24 rfl ?_
    simp only [wkA, Nat.reduceEqDiff, Nat.reduceAdd, Nat.reduceSub, Nat.reduceLeDiff, Nat.reduceLT, Nat.reduceBEq, Nat.reduceBNe, reduceCtorEq, u5]
    refine callF c80 rfl ?_
    simp only [wkA, Nat.reduceEqDiff, Nat.reduceAdd, Nat.reduceSub, Nat.reduceLeDiff, Nat.reduceLT, Nat.reduceBEq, Nat.reduceBNe, reduceCtorEq, ← uB, u1, u2, u3, u4]
    refine callFD c82 rfl ?_
    simp only [wkA, Nat.reduceEqDiff, Nat.reduceAdd, Nat.reduceSub, Nat.reduceLeDiff, Nat.reduceLT, Nat.reduceBEq, Nat.reduceBNe, reduceCtorEq, u1, u2, u3, u4]
    refine callFD d82 rfl ?_
    simp only [wkA, Nat.reduceEqDiff, Nat.reduceAdd, Nat.reduceSub, Nat.reduceLeDiff, Nat.reduceLT, Nat.reduceBEq, Nat.reduceBNe, reduceCtorEq]
  have midT : ∀ Y : Int, (dv s ≠ 0 → Y = X) → VC e0 ic49_2 (retQ [(4, some (some 4))] (shA neg a b X)) ⟨[(2, .box 2 0), (3, .box 3 0), (4, .box 4 0), (5, i64 n), (7, .box 7 0)], [(2, .box 26 [AV.sl 2 (List.map itemA p.pre), AV.sl 2 (List.map itemA p.suf), AV.bool p.hasNeg, AV.sl 2 (List.map itemA p.npre), AV.sl 2 (List.map itemA p.nsuf), i64 p.minInt, i64 p.maxInt, i64 p.minFrac, i64 p.maxFrac, i64 p.minSig, i64 p.maxSig, i64 p.prim, i64 p.sec, AV.str p.inc, AV.bool p.sci, i64 p.minExp, AV.bool p.plusExp, i64 p.padAt, AV.int IntKind.i32 p.pad, i64 p.width]), (3, .box 23 [.bool neg, .str s, i64 e]), (4, .box 39 [.bool false, .str [], .str [], i64 0]), (7, .box 39 [.bool neg, .str [], .str [], i64 Y])]⟩ := by
    intro Y hY
    simp only [ic49_2, wkA, Nat.reduceEqDiff, Nat.reduceAdd, Nat.reduceSub, Nat.reduceLeDiff, Nat.reduceLT, Nat.reduceBEq, Nat.reduceBNe, reduceCtorEq]
    refine callF c81 rfl ?_
    by_cases h0 : dv s = 0
    · have q := hX0 h0
      subst q
      simp only [wkA, Nat.reduceEqDiff, Nat.reduceAdd, Nat.reduceSub, Nat.reduceLeDiff, Nat.reduceLT, Nat.reduceBEq, Nat.reduceBNe, reduceCtorEq, decide_eq_true h0]
      exact tail
    · have q := hY h0
      subst q
      simp only [wkA, Nat.reduceEqDiff, Nat.reduceAdd, Nat.reduceSub, Nat.reduceLeDiff, Nat.reduceLT, Nat.reduceBEq, Nat.reduceBNe, reduceCtorEq, decide_eq_false h0]
      exact tail
  have midF : ∀ Y : Int, (dv s ≠ 0 → Y = X) → VC e0 ic49_2 (retQ [(4, some (some 4))] (shA neg a b X)) ⟨[(2, .box 2 0), (3, .box 3 0), (4, .box 4 0), (5, i64 n), (6, i64 (top (dv s) e)), (7, .box 7 0), (23, .bool false)], [(2, .box 26 [AV.sl 2 (List.map itemA p.pre), AV.sl 2 (List.map itemA p.suf), AV.bool p.hasNeg, AV.sl 2 (List.map itemA p.npre), AV.sl 2 (List.map itemA p.nsuf), i64 p.minInt, i64 p.maxInt, i64 p.minFrac, i64 p.maxFrac, i64 p.minSig, i64 p.maxSig, i64 p.prim, i64 p.sec, AV.str p.inc, AV.bool p.sci, i64 p.minExp, AV.bool p.plusExp, i64 p.padAt, AV.int IntKind.i32 p.pad, i64 p.width]), (3, .box 23 [.bool neg, .str s, i64 e]), (4, .box 39 [.bool false, .str [], .str [], i64 0]), (7, .box 39 [.bool neg, .str [], .str [], i64 Y])]⟩ := by
    intro Y hY
    simp only [ic49_2, wkA, Nat.reduceEqDiff, Nat.reduceAdd, Nat.reduceSub, Nat.reduceLeDiff, Nat.reduceLT, Nat.reduceBEq, Nat.reduceBNe, reduceCtorEq]
    refine callF c81 rfl ?_
    by_cases h0 : dv s = 0
    · have q := hX0 h0
      subst q
      simp only [wkA, Nat.reduceEqDiff, Nat.reduceAdd, Nat.reduceSub, Nat.reduceLeDiff, Nat.reduceLT, Nat.reduceBEq, Nat.reduceBNe, reduceCtorEq, decide_eq_true h0]
      exact tail
    · have q := hY h0
      subst q
      simp only [wkA, Nat.reduceEqDiff, Nat.reduceAdd, Nat.reduceSub, Nat.reduceLeDiff, Nat.reduceLT, Nat.reduceBEq, Nat.reduceBNe, reduceCtorEq, decide_eq_false h0]
      exact tail
  simp only [ic49, wkA, Nat.reduceEqDiff, Nat.reduceAdd, Nat.reduceSub, Nat.reduceLeDiff, Nat.reduceLT, Nat.reduceBEq, Nat.reduceBNe, reduceCtorEq]
  refine callFD c54 rfl ?_
  simp only [wkA, Nat.reduceEqDiff, Nat.reduceAdd, Nat.reduceSub, Nat.reduceLeDiff, Nat.reduceLT, Nat.reduceBEq, Nat.reduceBNe, reduceCtorEq]
  refine callFD c66 rfl ?_
  simp only [wkA, Nat.reduceEqDiff, Nat.reduceAdd, Nat.reduceSub, Nat.reduceLeDiff, Nat.reduceLT, Nat.reduceBEq, Nat.reduceBNe, reduceCtorEq]
  refine callF c26 rfl ?_
  cases hE : p.eng with
  | false =>
    rw [hE] at hn hX1
    simp only [Bool.false_eq_true, if_false] at hn hX1
    rw [hn] at w1 w2 hX1
    simp only [wkA, Nat.reduceEqDiff, Nat.reduceAdd, Nat.reduceSub, Nat.reduceLeDiff, Nat.reduceLT, Nat.reduceBEq, Nat.reduceBNe, reduceCtorEq, hn, w1, w2]
    exact midF _ fun h0 => (hX1 h0).symm
  | true =>
    have hm := eng_max hE
    have c83 := con83 (n := top (dv s) e) (b := p.maxInt) (by omega) (by omega)
    have h1 := Int.emod_nonneg (top (dv s) e) (b := (p.maxInt : Int)) (by omega)
    have h2 := Int.emod_lt_of_pos (top (dv s) e) (b := (p.maxInt : Int)) (by omega)
    rw [hE] at hn hX1
    simp only [if_true] at hn hX1
    have v1 : IntKind.i64.wrap (top (dv s) e - (top (dv s) e - top (dv s) e % p.maxInt)) = top (dv s) e % p.maxInt := by rw [wrap64] <;> omega
    have v2 : IntKind.i64.wrap (top (dv s) e % p.maxInt + 1) = top (dv s) e % p.maxInt + 1 := by rw [wrap64] <;> omega
    simp only [wkA, Nat.reduceEqDiff, Nat.reduceAdd, Nat.reduceSub, Nat.reduceLeDiff, Nat.reduceLT, Nat.reduceBEq, Nat.reduceBNe, reduceCtorEq, w1, w2]
    refine callF c83 rfl ?_
    rw [hn] at v2
    simp only [wkA, Nat.reduceEqDiff, Nat.reduceAdd, Nat.reduceSub, Nat.reduceLeDiff, Nat.reduceLT, Nat.reduceBEq, Nat.reduceBNe, reduceCtorEq, v1, hn, v2]
    exact midT _ fun h0 => (hX1 h0).symm
def rawL (p : Pat) (s : List UInt8) (e : Int) : List UInt8 × List UInt8 × Int := if p.sci = true then (spanN s e (sciX p s e + sciN p s e - 1) (sciN p s e).toNat, spanN s e (sciX p s e - 1) (sciB p s e).toNat, sciX p s e) else (spanN s e (plainN p s e - 1) (plainN p s e).toNat, spanN s e (-1) (plainB p s e).toNat, 0)
def layA (neg : Bool) (r : List UInt8 × List UInt8 × Int) : AV := shA neg (if r.1 ++ r.2.1 = [] then [48] else r.1) r.2.1 r.2.2
theorem plain_bd {p : Pat} (h : p.Ok) {s : List UInt8} {e : Int} (he : -5000 < e ∧ e < 5000) (ht : -20000 < top (dv s) e ∧ top (dv s) e < 20000) :
    (0 ≤ plainN p s e ∧ plainN p s e < 30000) ∧ (0 ≤ plainB p s e ∧ plainB p s e < 30000) := by
  have hc := h.cnt
  have hf := fineS_nn s e 0
  have hf2 : fineS s e 0 < 6000 := by unfold fineS; split <;> (try split) <;> omega
  constructor
  · unfold plainN imax; split <;> split <;> (try split) <;> omega
  · unfold plainB imax; split <;> split <;> omega
theorem con20 {p : Pat} (h : p.Ok) {neg : Bool} {s : List UInt8} {e : Int} (hs : okD s e) (he : -3000 < e ∧ e < 3000) (hl : s.length < 1900) :
    Fn 20 [p.av, D neg s e] (layA neg (rawL p (text (core (dv s))) (ne (dv s) (e + p.mult)))) := by
  have c41 := con41 h
  have hm := p.mult_le
  have c43 := con43 (neg := neg) (n := p.mult) hs (by omega)
  have hnd := nd_dv hs.1
  have hs2 : okD (text (core (dv s))) (ne (dv s) (e + p.mult)) := okN (by omega) (by omega)
  have htz : dv s ≠ 0 → nd (dv s) = nd (core (dv s)) + tz (dv s) := nd_core
  have hne : -5000 < ne (dv s) (e + p.mult) ∧ ne (dv s) (e + p.mult) < 5000 := by
    unfold ne
    split
    · omega
    · rename_i h0
      have := htz h0
      omega
  have hl2 : (text (core (dv s))).length < 9000 := by
    have := text_len (core (dv s))
    by_cases h0 : dv s = 0
    · rw [h0]; decide +kernel
    · have := htz h0; omega
  have ht : -20000 < top (dv (text (core (dv s)))) (ne (dv s) (e + p.mult)) ∧ top (dv (text (core (dv s)))) (ne (dv s) (e + p.mult)) < 20000 := by
    rw [dv_text, top_core]
    unfold top
    split <;> omega
  have c48 := con48 h (neg := neg) hs2 hne hl2 ht
  have c49 := con49 h (neg := neg) hs2 hne hl2 ht
  have hpb := plain_bd h hne ht
  have hsb := sci_bd h hne ht
  unfold rawL
  simp only [N] at c43
  simp only [D] at c48 c49
  generalize text (core (dv s)) = t at *
  generalize ne (dv s) (e + p.mult) = E1' at *
  cases hsci : p.sci with
  | false =>
    simp only [Bool.false_eq_true, if_false, layA]
    generalize ha : spanN t E1' (plainN p t E1' - 1) (plainN p t E1').toNat = a at *
    generalize hb : spanN t E1' (-1) (plainB p t E1').toNat = b at *
    refine e20 (by simp) ?_
    simp only [D, Pat.av, items, ic20, wkA, Nat.reduceEqDiff, Nat.reduceAdd, Nat.reduceSub, Nat.reduceLeDiff, Nat.reduceLT, Nat.reduceBEq, Nat.reduceBNe, reduceCtorEq, hsci] at c41 c43 c48 ⊢
    refine callFD c41 rfl ?_
    simp only [wkA, Nat.reduceEqDiff, Nat.reduceAdd, Nat.reduceSub, Nat.reduceLeDiff, Nat.reduceLT, Nat.reduceBEq, Nat.reduceBNe, reduceCtorEq]
    refine callFD c43 rfl ?_
    simp only [wkA, Nat.reduceEqDiff, Nat.reduceAdd, Nat.reduceSub, Nat.reduceLeDiff, Nat.reduceLT, Nat.reduceBEq, Nat.reduceBNe, reduceCtorEq, hsci]
    simp only [ic20_2, wkA, Nat.reduceEqDiff, Nat.reduceAdd, Nat.reduceSub, Nat.reduceLeDiff, Nat.reduceLT, Nat.reduceBEq, Nat.reduceBNe, reduceCtorEq]
    refine ⟨by kernel_rfl, callF c48 rfl ?_⟩
    have hab : decide (a ++ b = []) = (a ++ b == []) := (strBeq _ _).symm
    simp only [shA, wkA, Nat.reduceEqDiff, Nat.reduceAdd, Nat.reduceSub, Nat.reduceLeDiff, Nat.reduceLT, Nat.reduceBEq, Nat.reduceBNe, reduceCtorEq]
    refine ⟨by rw [← ha, ← hb, spanN_len, spanN_len]; omega, ?_⟩
    by_cases hz : a ++ b = []
    · have e0 : (a ++ b == []) = true := by rw [strBeq]; exact decide_eq_true hz
      rw [if_pos hz]
      simp only [wkA, Nat.reduceEqDiff, Nat.reduceAdd, Nat.reduceSub, Nat.reduceLeDiff, Nat.reduceLT, Nat.reduceBEq, Nat.reduceBNe, reduceCtorEq, e0]
      simp only [ic20_1, wkA, Nat.reduceEqDiff, Nat.reduceAdd, Nat.reduceSub, Nat.reduceLeDiff, Nat.reduceLT, Nat.reduceBEq, Nat.reduceBNe, reduceCtorEq]
    · have e0 : (a ++ b == []) = false := by rw [strBeq]; exact decide_eq_false hz
      rw [if_neg hz]
      simp only [wkA, Nat.reduceEqDiff, Nat.reduceAdd, Nat.reduceSub, Nat.reduceLeDiff, Nat.reduceLT, Nat.reduceBEq, Nat.reduceBNe, reduceCtorEq, e0]
      simp only [ic20_1, wkA, Nat.reduceEqDiff, Nat.reduceAdd, Nat.reduceSub, Nat.reduceLeDiff, Nat.reduceLT, Nat.reduceBEq, Nat.reduceBNe, reduceCtorEq]
  | true =>
    simp only [if_true, layA]
    generalize ha : spanN t E1' (sciX p t E1' + sciN p t E1' - 1) (sciN p t E1').toNat = a at *
    generalize hb : spanN t E1' (sciX p t E1' - 1) (sciB p t E1').toNat = b at *
    generalize sciX p t E1' = X at *
    refine e20 (by simp) ?_
    simp only [D, Pat.av, items, ic20, wkA, Nat.reduceEqDiff, Nat.reduceAdd, Nat.reduceSub, Nat.reduceLeDiff, Nat.reduceLT, Nat.reduceBEq, Nat.reduceBNe, reduceCtorEq, hsci] at c41 c43 c49 ⊢
    refine callFD c41 rfl ?_
    simp only [wkA, Nat.reduceEqDiff, Nat.reduceAdd, Nat.reduceSub, Nat.reduceLeDiff, Nat.reduceLT, Nat.reduceBEq, Nat.reduceBNe, reduceCtorEq]
    refine callFD c43 rfl ?_
    simp only [wkA, Nat.reduceEqDiff, Nat.reduceAdd, Nat.reduceSub, Nat.reduceLeDiff, Nat.reduceLT, Nat.reduceBEq, Nat.reduceBNe, reduceCtorEq, hsci]
    simp only [ic20_2, wkA, Nat.reduceEqDiff, Nat.reduceAdd, Nat.reduceSub, Nat.reduceLeDiff, Nat.reduceLT, Nat.reduceBEq, Nat.reduceBNe, reduceCtorEq]
    refine ⟨by kernel_rfl, callF c49 rfl ?_⟩
    have hab : decide (a ++ b = []) = (a ++ b == []) := (strBeq _ _).symm
    simp only [shA, wkA, Nat.reduceEqDiff, Nat.reduceAdd, Nat.reduceSub, Nat.reduceLeDiff, Nat.reduceLT, Nat.reduceBEq, Nat.reduceBNe, reduceCtorEq]
    refine ⟨by rw [← ha, ← hb, spanN_len, spanN_len]; omega, ?_⟩
    by_cases hz : a ++ b = []
    · have e0 : (a ++ b == []) = true := by rw [strBeq]; exact decide_eq_true hz
      rw [if_pos hz]
      simp only [wkA, Nat.reduceEqDiff, Nat.reduceAdd, Nat.reduceSub, Nat.reduceLeDiff, Nat.reduceLT, Nat.reduceBEq, Nat.reduceBNe, reduceCtorEq, e0]
      simp only [ic20_1, wkA, Nat.reduceEqDiff, Nat.reduceAdd, Nat.reduceSub, Nat.reduceLeDiff, Nat.reduceLT, Nat.reduceBEq, Nat.reduceBNe, reduceCtorEq]
    · have e0 : (a ++ b == []) = false := by rw [strBeq]; exact decide_eq_false hz
      rw [if_neg hz]
      simp only [wkA, Nat.reduceEqDiff, Nat.reduceAdd, Nat.reduceSub, Nat.reduceLeDiff, Nat.reduceLT, Nat.reduceBEq, Nat.reduceBNe, reduceCtorEq, e0]
      simp only [ic20_1, wkA, Nat.reduceEqDiff, Nat.reduceAdd, Nat.reduceSub, Nat.reduceLeDiff, Nat.reduceLT, Nat.reduceBEq, Nat.reduceBNe, reduceCtorEq]
def pB : Pat := ⟨[], [], false, [(2, 0)], [], 1, 3, 0, 2, 0, 0, 0, 0, [], true, 1, false, 0, 0, 0⟩
theorem pB_is : compileS [35, 35, 48, 46, 35, 35, 69, 48] = .ok pB := by kernel_rfl
theorem pB_ok : pB.Ok := (compileS_ok pB_is).ok
theorem con18 : Fn 18 [] (.bool true) := by
  have c31 := con31 (s := [35, 35, 48, 46, 35, 35, 69, 48]) (by decide)
  have o1 : okD [49, 50, 51, 52, 53] 0 := ⟨by rfl, by simp, by simp, by omega, by omega⟩
  have o2 : okD [49, 50, 51] 2 := ⟨by rfl, by simp, by simp, by omega, by omega⟩
  have c15 := con15 (p := pB) (m := 4) (neg := false) (s := [49, 50, 51, 52, 53]) (e := 0) pB_ok
  have c20 := con20 (p := pB) (neg := false) (s := [49, 50, 51]) (e := 2) pB_ok o2 (by omega) (by simp)
  have c26 := con26 pB
  have n15 : (shS pB 4 false [49, 50, 51, 52, 53] 0).av = .tup [.agg [.bool false, .str [49, 50, 51], i64 2], i64 0] := by kernel_rfl
  have n20 : layA false (rawL pB (text (core (dv [49, 50, 51]))) (ne (dv [49, 50, 51]) (2 + pB.mult))) = .agg [.bool false, .str [49, 50], .str [51], i64 3] := by kernel_rfl
  have n26 : pB.eng = true := by kernel_rfl
  have z0 : ((0 : Int) == 0) = true := rfl
  have q1 : eqCells [AV.bool false, .str [49, 50, 51], i64 2] [AV.bool false, .str [49, 50, 51], i64 2] = some true := by kernel_rfl
  have q2 : eqCells [AV.bool false, .str [49, 50], .str [51], i64 3] [AV.bool false, .str [49, 50], .str [51], i64 3] = some true := by kernel_rfl
  rw [n15] at c15
  rw [n20] at c20
  rw [n26] at c26
  rw [pB_is] at c31
  simp only [resC, pB, Pat.av, Flt.av, items, itemA, D, List.map_cons, List.map_nil] at c31 c15 c20 c26
  refine e18 (by simp) ?_
  simp only [ic18, wkA, Nat.reduceEqDiff, Nat.reduceAdd, Nat.reduceSub, Nat.reduceLeDiff, Nat.reduceLT, Nat.reduceBEq, Nat.reduceBNe, reduceCtorEq, binV]
  refine callF c31 rfl ?_
  simp only [wkA, Nat.reduceEqDiff, Nat.reduceAdd, Nat.reduceSub, Nat.reduceLeDiff, Nat.reduceLT, Nat.reduceBEq, Nat.reduceBNe, reduceCtorEq, binV]
  refine callF c15 rfl ?_
  simp only [wkA, Nat.reduceEqDiff, Nat.reduceAdd, Nat.reduceSub, Nat.reduceLeDiff, Nat.reduceLT, Nat.reduceBEq, Nat.reduceBNe, reduceCtorEq, binV]
  refine callF c20 rfl ?_
  simp only [wkA, Nat.reduceEqDiff, Nat.reduceAdd, Nat.reduceSub, Nat.reduceLeDiff, Nat.reduceLT, Nat.reduceBEq, Nat.reduceBNe, reduceCtorEq, binV, z0, q1, q2, ckind]
  refine callF c26 rfl ?_
  simp only [wkA, Nat.reduceEqDiff, Nat.reduceAdd, Nat.reduceSub, Nat.reduceLeDiff, Nat.reduceLT, Nat.reduceBEq, Nat.reduceBNe, reduceCtorEq, binV]
def Dm.in19 (d : Dm) : Bool := decide (d.s.length ≤ 120)
theorem con17 {s : List UInt8} {d : Dm} (hl : s.length < 1099511627776) (hd : d.s.length < 1099511627776) : Fn 17 [.str s, d.av] (.tup [(cmpP s).av, .bool (patG s && d.in19)]) := by
  have c31 := con31 hl
  rw [resC_eq] at c31
  refine e17 (by simp) ?_
  unfold patG Dm.in19 Dm.av
  generalize cmpP s = p at *
  generalize (cmpE s) = f at *
  simp only [Pat.av, Flt.av, items] at c31
  have hlen : decide ((d.s.length : Int) ≤ 120) = decide (d.s.length ≤ 120) := by rw [decide_eq_decide]; omega
  have hlen3 : decide ((s.length : Int) ≤ 300) = decide (s.length ≤ 300) := by rw [decide_eq_decide]; omega
  rw [← hlen, ← hlen3]
  cases h1 : (f.e == 0) with
  | false =>
    simp only [D, Pat.av, items, ic17, wkA, Nat.reduceEqDiff, Nat.reduceAdd, Nat.reduceSub, Nat.reduceLeDiff, Nat.reduceLT, Nat.reduceBEq, Nat.reduceBNe, reduceCtorEq, Bool.false_and]
    refine callF c31 rfl ?_
    simp only [wkA, Nat.reduceEqDiff, Nat.reduceAdd, Nat.reduceSub, Nat.reduceLeDiff, Nat.reduceLT, Nat.reduceBEq, Nat.reduceBNe, reduceCtorEq, h1]
  | true =>
    cases h2 : decide ((s.length : Int) ≤ 300) with
    | false =>
      simp only [D, Pat.av, items, ic17, wkA, Nat.reduceEqDiff, Nat.reduceAdd, Nat.reduceSub, Nat.reduceLeDiff, Nat.reduceLT, Nat.reduceBEq, Nat.reduceBNe, reduceCtorEq, Bool.false_and]
      refine callF c31 rfl ?_
      simp only [wkA, Nat.reduceEqDiff, Nat.reduceAdd, Nat.reduceSub, Nat.reduceLeDiff, Nat.reduceLT, Nat.reduceBEq, Nat.reduceBNe, reduceCtorEq, h1, h2]
    | true =>
      simp only [D, Pat.av, items, ic17, wkA, Nat.reduceEqDiff, Nat.reduceAdd, Nat.reduceSub, Nat.reduceLeDiff, Nat.reduceLT, Nat.reduceBEq, Nat.reduceBNe, reduceCtorEq]
      refine callF c31 rfl ?_
      simp only [wkA, Nat.reduceEqDiff, Nat.reduceAdd, Nat.reduceSub, Nat.reduceLeDiff, Nat.reduceLT, Nat.reduceBEq, Nat.reduceBNe, reduceCtorEq, h1, h2]
def I50 (neg : Bool) (s t : List UInt8) (e : Int) (z : Nat) (k : Nat) (st : St) : Prop := k ≤ z ∧ st = ⟨[(1, .box 1 0), (2, .box 2 0), (3, .str (t ++ noughts k)), (4, i64 (e + z - k))], [(1, .box 23 [.bool neg, .str s, i64 e]), (2, .box 23 [.bool false, .str [], i64 0])]⟩
theorem con50 {neg : Bool} {s : List UInt8} {e : Int} (h : okD s e) : Fn 50 [D neg s e] (N neg (dv s) e) := by
  have hb := h.2.2
  have c59 := con59 s (by omega)
  rw [← digs_dv h.1] at c59
  have hr := nd_dv h.1
  refine e50 (by simp) ?_
  by_cases h0 : dv s = 0
  · rw [h0, N_zero]
    rw [h0, digs_zero] at c59
    have e1 : (([] : List UInt8) == []) = true := rfl
    simp only [ic50, D, wkA, Nat.reduceEqDiff, Nat.reduceAdd, Nat.reduceSub, Nat.reduceLeDiff, Nat.reduceLT, Nat.reduceBEq, Nat.reduceBNe, reduceCtorEq] at c59 ⊢
    refine callF c59 rfl ?_
    simp only [wkA, Nat.reduceEqDiff, Nat.reduceAdd, Nat.reduceSub, Nat.reduceLeDiff, Nat.reduceLT, Nat.reduceBEq, Nat.reduceBNe, reduceCtorEq, e1]
  · have e1 : (digs (dv s) == []) = false := beq_eq_false_iff_ne.2 fun e => h0 (digs_nil.1 e)
    have hz := tz_le (dv s)
    obtain ⟨t0, c, ht, hc⟩ := digs_last (core_mod h0)
    have hlen : nd (core (dv s)) = t0.length + 1 := by rw [nd, ht]; simp
    have hnn := nd_core h0
    rw [N_pos h0]
    rw [digs_core h0] at c59 e1
    generalize digs (core (dv s)) = t at *
    generalize tz (dv s) = z at *
    simp only [ic50, D, wkA, Nat.reduceEqDiff, Nat.reduceAdd, Nat.reduceSub, Nat.reduceLeDiff, Nat.reduceLT, Nat.reduceBEq, Nat.reduceBNe, reduceCtorEq] at c59 ⊢
    refine callF c59 rfl ?_
    simp only [wkA, Nat.reduceEqDiff, Nat.reduceAdd, Nat.reduceSub, Nat.reduceLeDiff, Nat.reduceLT, Nat.reduceBEq, Nat.reduceBNe, reduceCtorEq, e1]
    simp only [ic50_4, wkA, Nat.reduceEqDiff, Nat.reduceAdd, Nat.reduceSub, Nat.reduceLeDiff, Nat.reduceLT, Nat.reduceBEq, Nat.reduceBNe, reduceCtorEq]
    refine ⟨I50 neg s t e z, z, _, Gh.refl _, ⟨Nat.le_refl _, ?_⟩, ?_⟩
    · rw [show e + (z : Int) - z = e by omega]
    rintro k st ⟨hk, rfl⟩
    have htl : t.length = t0.length + 1 := by rw [ht]; simp
    rcases k with _ | k
    · have hl : (t ++ noughts 0).length = t0.length + 1 := by simp [noughts, htl]
      have w1 : IntKind.i64.wrap (((t0.length + 1 : Nat) : Int) - 1) = (t0.length : Int) := by rw [wrap64] <;> omega
      have g1 : (t ++ noughts 0).getD t0.length 0 = c := by rw [ht]; simp [noughts]
      have g2 : ((c.toNat : Int) == 48) = false := by rw [eq48]; exact beq_eq_false_iff_ne.2 hc
      have g3 : t ++ noughts 0 = t := by simp [noughts]
      simp only [ic50_2, wkA, Nat.reduceEqDiff, Nat.reduceAdd, Nat.reduceSub, Nat.reduceLeDiff, Nat.reduceLT, Nat.reduceBEq, Nat.reduceBNe, reduceCtorEq, hl, w1, Int.toNat_natCast, g1, g2]
      refine ⟨by omega, ?_⟩
      rw [g3]
      simp only [ic50_3, wkA, Nat.reduceEqDiff, Nat.reduceAdd, Nat.reduceSub, Nat.reduceLeDiff, Nat.reduceLT, Nat.reduceBEq, Nat.reduceBNe, reduceCtorEq]
      rw [show e + (z : Int) - ((0 : Nat) : Int) = e + z by omega]
    · have hl : (t ++ noughts (k + 1)).length = t0.length + 1 + (k + 1) := by simp [noughts, htl]
      have w1 : IntKind.i64.wrap (((t0.length + 1 + (k + 1) : Nat) : Int) - 1) = ((t0.length + 1 + k : Nat) : Int) := by rw [wrap64] <;> omega
      have g3 : t ++ noughts (k + 1) = (t ++ noughts k) ++ [48] := by simp [noughts, List.replicate_succ']
      have g4 : (t ++ noughts k).length = t0.length + 1 + k := by simp [noughts, htl]
      have g1 : (t ++ noughts (k + 1)).getD (t0.length + 1 + k) 0 = 48 := by rw [g3, ← g4]; simp
      have g5 : (t ++ noughts (k + 1)).take (t0.length + 1 + k) = t ++ noughts k := by rw [g3, ← g4]; exact List.take_left
      have w2 : IntKind.i64.wrap (e + z - ((k + 1 : Nat) : Int) + 1) = e + z - k := by rw [wrap64] <;> omega
      have g2 : (((48 : UInt8).toNat : Int) == 48) = true := rfl
      simp only [ic50_2, ic50_1, wkA, Nat.reduceEqDiff, Nat.reduceAdd, Nat.reduceSub, Nat.reduceLeDiff, Nat.reduceLT, Nat.reduceBEq, Nat.reduceBNe, reduceCtorEq, hl, w1, Int.toNat_natCast, Int.toNat_zero, g1, g2, w2, Nat.sub_zero, g5]
      refine ⟨by omega, ⟨by omega, by omega⟩, _, k, Gh.refl _, by omega, by omega, rfl⟩
theorem con33 {neg : Bool} {s : List UInt8} {e : Int} (h : okD s e) : Fn 33 [D neg s e] (.bool (rngd (dv s) e)) := by
  have c50 := con50 (neg := neg) h
  have hr := nd_dv h.1
  have hb := h.2.2
  have hz := tz_le (dv s)
  refine e33 (by simp) ?_
  by_cases h0 : dv s = 0
  · have e1 : (([48] : List UInt8) == [48]) = true := rfl
    have e2 : rngd (dv s) e = true := by rw [h0]; rfl
    rw [e2]
    rw [h0, N_zero] at c50
    simp only [ic33, D, wkA, Nat.reduceEqDiff, Nat.reduceAdd, Nat.reduceSub, Nat.reduceLeDiff, Nat.reduceLT, Nat.reduceBEq, Nat.reduceBNe, reduceCtorEq] at c50 ⊢
    refine callF c50 rfl ?_
    simp only [wkA, Nat.reduceEqDiff, Nat.reduceAdd, Nat.reduceSub, Nat.reduceLeDiff, Nat.reduceLT, Nat.reduceBEq, Nat.reduceBNe, reduceCtorEq, e1]
  · have e1 : (digs (core (dv s)) == [48]) = false := by
      rw [strBeq]; exact decide_eq_false fun e => core_ne h0 (text_eq48.1 (by rw [text_pos (core_ne h0)]; exact e))
    have e2 : rngd (dv s) e = (decide (-300 ≤ ne (dv s) e) && decide (top (dv s) e < 300)) := by rw [rngd, decide_eq_false h0]; rfl
    have e3 : (digs (core (dv s))).length = nd (core (dv s)) := rfl
    have hnn := nd_core h0
    rw [e2, top, if_neg h0, ne_pos h0]
    rw [N_pos h0] at c50
    generalize digs (core (dv s)) = t at *
    generalize tz (dv s) = z at *
    have w1 : IntKind.i64.wrap (e + z + (t.length : Int)) = e + z + t.length := by rw [wrap64] <;> omega
    have e4 : decide (e + z + (t.length : Int) ≤ 300) = decide (e + (nd (dv s) : Int) - 1 < 300) := by rw [decide_eq_decide]; omega
    by_cases h1 : -300 ≤ e + (z : Int)
    · have e5 : decide (-300 ≤ e + (z : Int)) = true := decide_eq_true h1
      have e6 : decide (e + (z : Int) ≥ -300) = true := decide_eq_true h1
      rw [e5, Bool.true_and, ← e4]
      simp only [ic33, D, wkA, Nat.reduceEqDiff, Nat.reduceAdd, Nat.reduceSub, Nat.reduceLeDiff, Nat.reduceLT, Nat.reduceBEq, Nat.reduceBNe, reduceCtorEq] at c50 ⊢
      refine callF c50 rfl ?_
      simp only [wkA, Nat.reduceEqDiff, Nat.reduceAdd, Nat.reduceSub, Nat.reduceLeDiff, Nat.reduceLT, Nat.reduceBEq, Nat.reduceBNe, reduceCtorEq, e1, e6, w1]
    · have e5 : decide (-300 ≤ e + (z : Int)) = false := decide_eq_false h1
      have e6 : decide (e + (z : Int) ≥ -300) = false := decide_eq_false h1
      rw [e5, Bool.false_and]
      simp only [ic33, D, wkA, Nat.reduceEqDiff, Nat.reduceAdd, Nat.reduceSub, Nat.reduceLeDiff, Nat.reduceLT, Nat.reduceBEq, Nat.reduceBNe, reduceCtorEq] at c50 ⊢
      refine callF c50 rfl ?_
      simp only [wkA, Nat.reduceEqDiff, Nat.reduceAdd, Nat.reduceSub, Nat.reduceLeDiff, Nat.reduceLT, Nat.reduceBEq, Nat.reduceBNe, reduceCtorEq, e1, e6]
theorem con32 {neg : Bool} {s : List UInt8} {e : Int} (hl : s.length < 1099511627776) : Fn 32 [D neg s e] (.bool (goodD s e)) := by
  have c58 := con58 s hl
  refine e32 (by simp) ?_
  unfold goodD
  cases h1 : (dgs s && decide (s ≠ [])) with
  | false =>
    rw [h1] at c58
    rw [Bool.and_false]
    simp only [ic32, D, wkA, Nat.reduceEqDiff, Nat.reduceAdd, Nat.reduceSub, Nat.reduceLeDiff, Nat.reduceLT, Nat.reduceBEq, Nat.reduceBNe, reduceCtorEq] at c58 ⊢
    refine callF c58 rfl ?_
    simp only [wkA, Nat.reduceEqDiff, Nat.reduceAdd, Nat.reduceSub, Nat.reduceLeDiff, Nat.reduceLT, Nat.reduceBEq, Nat.reduceBNe, reduceCtorEq]
  | true =>
    rw [h1] at c58
    rw [Bool.and_true]
    have e1 : decide ((s.length : Int) ≤ 1000) = decide (s.length ≤ 1000) := by rw [decide_eq_decide]; omega
    cases h2 : decide (s.length ≤ 1000) with
    | false =>
      rw [h2] at e1
      simp only [ic32, D, wkA, Nat.reduceEqDiff, Nat.reduceAdd, Nat.reduceSub, Nat.reduceLeDiff, Nat.reduceLT, Nat.reduceBEq, Nat.reduceBNe, reduceCtorEq, Bool.false_and] at c58 ⊢
      refine callF c58 rfl ?_
      simp only [wkA, Nat.reduceEqDiff, Nat.reduceAdd, Nat.reduceSub, Nat.reduceLeDiff, Nat.reduceLT, Nat.reduceBEq, Nat.reduceBNe, reduceCtorEq, e1]
    | true =>
      rw [h2] at e1
      rw [Bool.true_and]
      cases h3 : decide (-1000 ≤ e) with
      | false =>
        have e2 : decide (e ≥ -1000) = false := h3
        rw [Bool.false_and]
        simp only [ic32, D, wkA, Nat.reduceEqDiff, Nat.reduceAdd, Nat.reduceSub, Nat.reduceLeDiff, Nat.reduceLT, Nat.reduceBEq, Nat.reduceBNe, reduceCtorEq] at c58 ⊢
        refine callF c58 rfl ?_
        simp only [wkA, Nat.reduceEqDiff, Nat.reduceAdd, Nat.reduceSub, Nat.reduceLeDiff, Nat.reduceLT, Nat.reduceBEq, Nat.reduceBNe, reduceCtorEq, e1, e2]
      | true =>
        have e2 : decide (e ≥ -1000) = true := h3
        rw [Bool.true_and]
        simp only [ic32, D, wkA, Nat.reduceEqDiff, Nat.reduceAdd, Nat.reduceSub, Nat.reduceLeDiff, Nat.reduceLT, Nat.reduceBEq, Nat.reduceBNe, reduceCtorEq] at c58 ⊢
        refine callF c58 rfl ?_
        simp only [wkA, Nat.reduceEqDiff, Nat.reduceAdd, Nat.reduceSub, Nat.reduceLeDiff, Nat.reduceLT, Nat.reduceBEq, Nat.reduceBNe, reduceCtorEq, e1, e2]
end Go.Proofs.YtgehlcgjchfibaaGreatDoor.F
