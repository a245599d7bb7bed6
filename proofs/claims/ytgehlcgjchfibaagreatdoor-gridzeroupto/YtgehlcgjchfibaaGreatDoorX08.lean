/-
  What the functions that the laws call compute, for every input that the statements allow (part 8): for the claims up to a bulk of 1048576.
-/
import Derived.Test.YtgehlcgjchfibaaGreatDoorX07
set_option maxRecDepth 100000
set_option linter.unusedVariables false
set_option linter.unusedSimpArgs false
set_option linter.defProp false
set_option maxHeartbeats 4000000
namespace Go.Proofs.YtgehlcgjchfibaaGreatDoor.F
open Go Go.RowKit Go.Proofs

def pA : Pat := ⟨[], [(4, 0)], false, [(2, 0)], [(4, 0)], 1, 0, 2, 2, 0, 0, 3, 3, [], false, 0, false, 0, 0, 0⟩
theorem pA_is : compileS [35, 44, 35, 35, 48, 46, 48, 48, 37] = .ok pA := by kernel_rfl
theorem CmpOk.ok {p : Pat} (h : CmpOk p) : p.Ok := ⟨h.lens, h.cnt, h.inc⟩
theorem pA_ok : pA.Ok := (compileS_ok pA_is).ok
theorem con14 : Fn 14 [] (.bool true) := by
  have c31 := con31 (s := [35, 44, 35, 35, 48, 46, 48, 48, 37]) (by decide)
  have o1 : okD [49, 50, 51, 52, 53] (-5) := ⟨by rfl, by simp, by simp, by omega, by omega⟩
  have o2 : okD [49, 50, 51, 52] (-4) := ⟨by rfl, by simp, by simp, by omega, by omega⟩
  have o3 : okD [49] 0 := ⟨by rfl, by simp, by simp, by omega, by omega⟩
  have c36 := con36 (neg := false) (s := [49, 50, 51, 52, 53]) (e := -5) pA_ok rfl rfl rfl
  have c16 := con16 (neg := false) (s := [49, 50, 51, 52, 53]) (e := -5) pA_ok o1 (by omega) (by simp)
  have c16b := con16 (neg := false) (s := [49, 50, 51, 52]) (e := -4) pA_ok o2 (by omega) (by simp)
  have c37 := con37 (s1 := [49, 50, 51, 52, 53]) (s2 := [49]) (e1 := -5) (e2 := 0) (E := -5) (x := 12345) (y := 100000) o1 o3 (by decide) (by omega) (by omega) (by kernel_rfl) (by kernel_rfl) (by simp) (by simp) (by omega) (by omega)
  have n36 : N false 1 (-(pA.maxFrac : Int) + -(pA.mult : Int)) = .agg [.bool false, .str [49], i64 (-4)] := by kernel_rfl
  have n16 : isS pA false (core (dv [49, 50, 51, 52, 53])) (ne (dv [49, 50, 51, 52, 53]) (-5 + pA.mult)) = false := by kernel_rfl
  have n16b : isS pA false (core (dv [49, 50, 51, 52])) (ne (dv [49, 50, 51, 52]) (-4 + pA.mult)) = true := by kernel_rfl
  have n37 : N false (core (100000 - 12345)) (ne (100000 - 12345) (-5)) = .agg [.bool false, .str [56, 55, 54, 53, 53], i64 (-5)] := by kernel_rfl
  have q1 : eqCells [AV.bool false, .str [49], i64 (-4)] [AV.bool false, .str [49], i64 (-4)] = some true := by kernel_rfl
  have q2 : eqCells [AV.bool false, .str [56, 55, 54, 53, 53], i64 (-5)] [AV.bool false, .str [56, 55, 54, 53, 53], i64 (-5)] = some true := by kernel_rfl
  rw [n36] at c36
  rw [n16] at c16
  rw [n16b] at c16b
  rw [n37] at c37
  rw [pA_is] at c31
  simp only [resC, pA, Pat.av, Flt.av, items, itemA, D, List.map_cons, List.map_nil] at c31 c36 c16 c16b c37
  refine e14 (by simp) ?_
  simp only [ic14, wkA, Nat.reduceEqDiff, Nat.reduceAdd, Nat.reduceSub, Nat.reduceLeDiff, Nat.reduceLT, Nat.reduceBEq, Nat.reduceBNe, reduceCtorEq, binV]
  refine callF c31 rfl ?_
  simp only [wkA, Nat.reduceEqDiff, Nat.reduceAdd, Nat.reduceSub, Nat.reduceLeDiff, Nat.reduceLT, Nat.reduceBEq, Nat.reduceBNe, reduceCtorEq, binV]
  refine callF c36 rfl ?_
  simp only [wkA, Nat.reduceEqDiff, Nat.reduceAdd, Nat.reduceSub, Nat.reduceLeDiff, Nat.reduceLT, Nat.reduceBEq, Nat.reduceBNe, reduceCtorEq, binV, q1, ckind]
  refine callF c16 rfl ?_
  simp only [wkA, Nat.reduceEqDiff, Nat.reduceAdd, Nat.reduceSub, Nat.reduceLeDiff, Nat.reduceLT, Nat.reduceBEq, Nat.reduceBNe, reduceCtorEq, binV, Bool.not_false]
  refine callF c16b rfl ?_
  simp only [wkA, Nat.reduceEqDiff, Nat.reduceAdd, Nat.reduceSub, Nat.reduceLeDiff, Nat.reduceLT, Nat.reduceBEq, Nat.reduceBNe, reduceCtorEq, binV]
  refine callF c37 rfl ?_
  simp only [wkA, Nat.reduceEqDiff, Nat.reduceAdd, Nat.reduceSub, Nat.reduceLeDiff, Nat.reduceLT, Nat.reduceBEq, Nat.reduceBNe, reduceCtorEq, binV, q2, ckind]

theorem cmpP_ok (s : List UInt8) : CmpOk (cmpP s) := by
  unfold cmpP
  cases h : compileS s with
  | error f => exact ⟨by simp [Pat.zero], ⟨rfl, by simp [Pat.zero], fun h => absurd rfl h⟩, fun h => absurd rfl h, fun h => absurd h (by simp [Pat.zero]), fun _ => rfl, by simp [Pat.zero]⟩
  | ok p => exact compileS_ok h
theorem Dm.in_ok {d : Dm} (h : d.in_ = true) : okD d.s d.e ∧ d.s.length ≤ 120 ∧ -1000 ≤ d.e ∧ d.e ≤ 1000 := by
  unfold Dm.in_ at h
  simp only [Bool.and_eq_true, decide_eq_true_eq] at h
  have := goodD_ok h.1.2
  exact ⟨this.1, h.1.1, this.2.2⟩

/-- THE CONTRACT of GridOrders. -/
theorem con3 (s : List UInt8) (m : Int) (a b : Dm) (hs : s.length < 1099511627776) (ha : a.s.length < 1099511627776) (hb : b.s.length < 1099511627776) : Fn 3 [.str s, i64 m, a.av, b.av] (.bool true) := by
  have c12 := con12 (l := [a, b]) hs (by simp) (by intro d hd; simp only [List.mem_cons, List.not_mem_nil, or_false] at hd; rcases hd with rfl | rfl <;> assumption)
  have c14 := con14
  have hp := cmpP_ok s
  generalize hg : (patG s && [a, b].all Dm.in_) = g at c12
  have hin : g = true → a.in_ = true ∧ b.in_ = true := by
    intro h
    rw [h] at hg
    simp only [List.all_cons, List.all_nil, Bool.and_true, Bool.and_eq_true] at hg
    exact hg.2
  clear hg
  generalize cmpP s = p at *
  have c15a := con15 hp.ok (m := m) (neg := a.neg) (s := a.s) (e := a.e)
  have c15b := con15 hp.ok (m := m) (neg := b.neg) (s := b.s) (e := b.e)
  refine e3 (by simp) ?_
  simp only [Pat.av, items, List.map_cons, List.map_nil, Dm.av, D] at c12 c15a c15b
  simp only [ic3, Dm.av, D, wkA, Nat.reduceEqDiff, Nat.reduceAdd, Nat.reduceSub, Nat.reduceLeDiff, Nat.reduceLT, Nat.reduceBEq, Nat.reduceBNe, reduceCtorEq]
  refine callF c12 rfl ?_
  cases g with
  | false =>
    simp only [wkA, Nat.reduceEqDiff, Nat.reduceAdd, Nat.reduceSub, Nat.reduceLeDiff, Nat.reduceLT, Nat.reduceBEq, Nat.reduceBNe, reduceCtorEq, Bool.not_false]
    refine callF c14 rfl ?_
    simp only [wkA, Nat.reduceEqDiff, Nat.reduceAdd, Nat.reduceSub, Nat.reduceLeDiff, Nat.reduceLT, Nat.reduceBEq, Nat.reduceBNe, reduceCtorEq]
  | true =>
    obtain ⟨ia, ib⟩ := hin rfl
    have oa := a.in_ok ia
    have ob := b.in_ok ib
    by_cases h1 : m < 0
    · have d1 : decide (m < 0) = true := decide_eq_true h1
      simp only [wkA, Nat.reduceEqDiff, Nat.reduceAdd, Nat.reduceSub, Nat.reduceLeDiff, Nat.reduceLT, Nat.reduceBEq, Nat.reduceBNe, reduceCtorEq, Bool.not_true, d1]
      refine callF c14 rfl ?_
      simp only [wkA, Nat.reduceEqDiff, Nat.reduceAdd, Nat.reduceSub, Nat.reduceLeDiff, Nat.reduceLT, Nat.reduceBEq, Nat.reduceBNe, reduceCtorEq]
    · have d1 : decide (m < 0) = false := decide_eq_false h1
      by_cases h2 : m > 6
      · have d2 : decide (m > 6) = true := decide_eq_true h2
        simp only [wkA, Nat.reduceEqDiff, Nat.reduceAdd, Nat.reduceSub, Nat.reduceLeDiff, Nat.reduceLT, Nat.reduceBEq, Nat.reduceBNe, reduceCtorEq, Bool.not_true, d1, d2]
        refine callF c14 rfl ?_
        simp only [wkA, Nat.reduceEqDiff, Nat.reduceAdd, Nat.reduceSub, Nat.reduceLeDiff, Nat.reduceLT, Nat.reduceBEq, Nat.reduceBNe, reduceCtorEq]
      · have d2 : decide (m > 6) = false := decide_eq_false h2
        have c13 := con13 (n1 := a.neg) (n2 := b.neg) oa.1 ob.1 rfl rfl rfl
        have ord := fun (r1 r2 : Bool) (q1 q2 : Nat) (F1 F2 : Int) (x : shS p m a.neg a.s a.e = .ok r1 q1 F1) (y : shS p m b.neg b.s b.e = .ok r2 q2 F2) => shS_order hp.ok x y rfl rfl
        simp only [D] at c13
        generalize hc : cmpD a.neg (dv a.s * 10 ^ (a.e - if b.e < a.e then b.e else a.e).toNat) b.neg (dv b.s * 10 ^ (b.e - if b.e < a.e then b.e else a.e).toNat) = c at *
        by_cases h3 : c > 0
        · have d3 : decide (c > 0) = true := decide_eq_true h3
          simp only [wkA, Nat.reduceEqDiff, Nat.reduceAdd, Nat.reduceSub, Nat.reduceLeDiff, Nat.reduceLT, Nat.reduceBEq, Nat.reduceBNe, reduceCtorEq, Bool.not_true, d1, d2]
          refine callF c13 rfl ?_
          simp only [wkA, Nat.reduceEqDiff, Nat.reduceAdd, Nat.reduceSub, Nat.reduceLeDiff, Nat.reduceLT, Nat.reduceBEq, Nat.reduceBNe, reduceCtorEq, d3]
          refine callF c14 rfl ?_
          simp only [wkA, Nat.reduceEqDiff, Nat.reduceAdd, Nat.reduceSub, Nat.reduceLeDiff, Nat.reduceLT, Nat.reduceBEq, Nat.reduceBNe, reduceCtorEq]
        · have d3 : decide (c > 0) = false := decide_eq_false h3
          simp only [wkA, Nat.reduceEqDiff, Nat.reduceAdd, Nat.reduceSub, Nat.reduceLeDiff, Nat.reduceLT, Nat.reduceBEq, Nat.reduceBNe, reduceCtorEq, Bool.not_true, d1, d2]
          refine callF c13 rfl ?_
          simp only [wkA, Nat.reduceEqDiff, Nat.reduceAdd, Nat.reduceSub, Nat.reduceLeDiff, Nat.reduceLT, Nat.reduceBEq, Nat.reduceBNe, reduceCtorEq, d3]
          cases hx : shS p m a.neg a.s a.e with
          | err k =>
            have hk : (k != 0) = true := bne_iff_ne.2 (shS_err hx)
            obtain ⟨y1, y2, y3, y4, hy⟩ := Rs.two (shS p m b.neg b.s b.e)
            rw [hx] at c15a
            rw [hy] at c15b
            simp only [Rs.av, zD, D] at c15a
            simp only [ic3_1, Pat.av, items, wkA, Nat.reduceEqDiff, Nat.reduceAdd, Nat.reduceSub, Nat.reduceLeDiff, Nat.reduceLT, Nat.reduceBEq, Nat.reduceBNe, reduceCtorEq]
            refine callF c15a rfl ?_
            simp only [wkA, Nat.reduceEqDiff, Nat.reduceAdd, Nat.reduceSub, Nat.reduceLeDiff, Nat.reduceLT, Nat.reduceBEq, Nat.reduceBNe, reduceCtorEq]
            refine callF c15b rfl ?_
            simp only [wkA, Nat.reduceEqDiff, Nat.reduceAdd, Nat.reduceSub, Nat.reduceLeDiff, Nat.reduceLT, Nat.reduceBEq, Nat.reduceBNe, reduceCtorEq]
            refine callF c14 rfl ?_
            simp only [wkA, Nat.reduceEqDiff, Nat.reduceAdd, Nat.reduceSub, Nat.reduceLeDiff, Nat.reduceLT, Nat.reduceBEq, Nat.reduceBNe, reduceCtorEq, hk]
          | ok r1 q1 F1 =>
            have e00 : ((0 : Int) != 0) = false := rfl
            rw [hx] at c15a
            cases hy : shS p m b.neg b.s b.e with
            | err k =>
              have hk : (k != 0) = true := bne_iff_ne.2 (shS_err hy)
              rw [hy] at c15b
              simp only [Rs.av, zD, N, D] at c15a c15b
              generalize text (core q1) = t1 at *
              generalize ne q1 F1 = x1 at *
              simp only [ic3_1, Pat.av, items, wkA, Nat.reduceEqDiff, Nat.reduceAdd, Nat.reduceSub, Nat.reduceLeDiff, Nat.reduceLT, Nat.reduceBEq, Nat.reduceBNe, reduceCtorEq]
              refine callF c15a rfl ?_
              simp only [wkA, Nat.reduceEqDiff, Nat.reduceAdd, Nat.reduceSub, Nat.reduceLeDiff, Nat.reduceLT, Nat.reduceBEq, Nat.reduceBNe, reduceCtorEq]
              refine callF c15b rfl ?_
              simp only [wkA, Nat.reduceEqDiff, Nat.reduceAdd, Nat.reduceSub, Nat.reduceLeDiff, Nat.reduceLT, Nat.reduceBEq, Nat.reduceBNe, reduceCtorEq]
              refine callF c14 rfl ?_
              simp only [wkA, Nat.reduceEqDiff, Nat.reduceAdd, Nat.reduceSub, Nat.reduceLeDiff, Nat.reduceLT, Nat.reduceBEq, Nat.reduceBNe, reduceCtorEq, hk, e00]
            | ok r2 q2 F2 =>
              rw [hy] at c15b
              have bd1 := shS_bd hp.ok hx
              have bd2 := shS_bd hp.ok hy
              have ho := ord r1 r2 q1 q2 F1 F2 hx hy (by omega)
              have c13b := con13 (n1 := r1) (n2 := r2) (okN (c := q1) (e := F1) (by omega) (by omega)) (okN (c := q2) (e := F2) (by omega) (by omega)) rfl rfl rfl
              rw [dv_text, dv_text] at c13b
              generalize cmpD r1 (core q1 * 10 ^ (ne q1 F1 - if ne q2 F2 < ne q1 F1 then ne q2 F2 else ne q1 F1).toNat) r2 (core q2 * 10 ^ (ne q2 F2 - if ne q2 F2 < ne q1 F1 then ne q2 F2 else ne q1 F1).toNat) = z at *
              have hz : decide (z ≤ 0) = true := decide_eq_true ho
              simp only [Rs.av, zD, N, D] at c15a c15b c13b
              generalize text (core q1) = t1 at *
              generalize ne q1 F1 = x1 at *
              generalize text (core q2) = t2 at *
              generalize ne q2 F2 = x2 at *
              simp only [ic3_1, Pat.av, items, wkA, Nat.reduceEqDiff, Nat.reduceAdd, Nat.reduceSub, Nat.reduceLeDiff, Nat.reduceLT, Nat.reduceBEq, Nat.reduceBNe, reduceCtorEq]
              refine callF c15a rfl ?_
              simp only [wkA, Nat.reduceEqDiff, Nat.reduceAdd, Nat.reduceSub, Nat.reduceLeDiff, Nat.reduceLT, Nat.reduceBEq, Nat.reduceBNe, reduceCtorEq]
              refine callF c15b rfl ?_
              simp only [wkA, Nat.reduceEqDiff, Nat.reduceAdd, Nat.reduceSub, Nat.reduceLeDiff, Nat.reduceLT, Nat.reduceBEq, Nat.reduceBNe, reduceCtorEq]
              refine callF c14 rfl ?_
              simp only [wkA, Nat.reduceEqDiff, Nat.reduceAdd, Nat.reduceSub, Nat.reduceLeDiff, Nat.reduceLT, Nat.reduceBEq, Nat.reduceBNe, reduceCtorEq, e00]
              refine callF c13b rfl ?_
              simp only [wkA, Nat.reduceEqDiff, Nat.reduceAdd, Nat.reduceSub, Nat.reduceLeDiff, Nat.reduceLT, Nat.reduceBEq, Nat.reduceBNe, reduceCtorEq, hz]

/-- THE CONTRACT of GridWays. -/
theorem con4 (s : List UInt8) (m : Int) (a : Dm) (hs : s.length < 1099511627776) (ha : a.s.length < 1099511627776) : Fn 4 [.str s, i64 m, a.av] (.bool true) := by
  have c12 := con12 (l := [a]) hs (by simp) (by intro d hd; simp only [List.mem_cons, List.not_mem_nil, or_false] at hd; rcases hd with rfl; assumption)
  have c14 := con14
  have hp := cmpP_ok s
  generalize hg : (patG s && [a].all Dm.in_) = g at c12
  clear hg
  generalize cmpP s = p at *
  have ways := fun h : 0 ≤ m ∧ m ≤ 6 => shS_ways h p a.neg a.s a.e
  have bdm := fun (r1 : Bool) (q1 : Nat) (F1 : Int) (x : shS p m a.neg a.s a.e = .ok r1 q1 F1) => (shS_bd hp.ok x).1
  have bd2 := fun (r1 : Bool) (q1 : Nat) (F1 : Int) (x : shS p 2 a.neg a.s a.e = .ok r1 q1 F1) => (shS_bd hp.ok x).1
  have bd3 := fun (r1 : Bool) (q1 : Nat) (F1 : Int) (x : shS p 3 a.neg a.s a.e = .ok r1 q1 F1) => (shS_bd hp.ok x).1
  have erm := fun k (x : shS p m a.neg a.s a.e = .err k) => shS_err x
  have er2 := fun k (x : shS p 2 a.neg a.s a.e = .err k) => shS_err x
  have er3 := fun k (x : shS p 3 a.neg a.s a.e = .err k) => shS_err x
  have cm := con15 hp.ok (m := m) (neg := a.neg) (s := a.s) (e := a.e)
  have c2 := con15 hp.ok (m := 2) (neg := a.neg) (s := a.s) (e := a.e)
  have c3 := con15 hp.ok (m := 3) (neg := a.neg) (s := a.s) (e := a.e)
  refine e4 (by simp) ?_
  simp only [Pat.av, items, List.map_cons, List.map_nil, Dm.av, D] at c12 cm c2 c3
  simp only [ic4, Dm.av, D, wkA, Nat.reduceEqDiff, Nat.reduceAdd, Nat.reduceSub, Nat.reduceLeDiff, Nat.reduceLT, Nat.reduceBEq, Nat.reduceBNe, reduceCtorEq, binV]
  refine callF c12 rfl ?_
  cases g with
  | false =>
    simp only [wkA, Nat.reduceEqDiff, Nat.reduceAdd, Nat.reduceSub, Nat.reduceLeDiff, Nat.reduceLT, Nat.reduceBEq, Nat.reduceBNe, reduceCtorEq, binV, Bool.not_false]
    refine callF c14 rfl ?_
    simp only [wkA, Nat.reduceEqDiff, Nat.reduceAdd, Nat.reduceSub, Nat.reduceLeDiff, Nat.reduceLT, Nat.reduceBEq, Nat.reduceBNe, reduceCtorEq, binV]
  | true =>
    by_cases h1 : m < 0
    · have d1 : decide (m < 0) = true := decide_eq_true h1
      simp only [wkA, Nat.reduceEqDiff, Nat.reduceAdd, Nat.reduceSub, Nat.reduceLeDiff, Nat.reduceLT, Nat.reduceBEq, Nat.reduceBNe, reduceCtorEq, binV, Bool.not_true, d1]
      refine callF c14 rfl ?_
      simp only [wkA, Nat.reduceEqDiff, Nat.reduceAdd, Nat.reduceSub, Nat.reduceLeDiff, Nat.reduceLT, Nat.reduceBEq, Nat.reduceBNe, reduceCtorEq, binV]
    · have d1 : decide (m < 0) = false := decide_eq_false h1
      by_cases h2 : m > 6
      · have d2 : decide (m > 6) = true := decide_eq_true h2
        simp only [wkA, Nat.reduceEqDiff, Nat.reduceAdd, Nat.reduceSub, Nat.reduceLeDiff, Nat.reduceLT, Nat.reduceBEq, Nat.reduceBNe, reduceCtorEq, binV, Bool.not_true, d1, d2]
        refine callF c14 rfl ?_
        simp only [wkA, Nat.reduceEqDiff, Nat.reduceAdd, Nat.reduceSub, Nat.reduceLeDiff, Nat.reduceLT, Nat.reduceBEq, Nat.reduceBNe, reduceCtorEq, binV]
      · have d2 : decide (m > 6) = false := decide_eq_false h2
        have hw := ways ⟨by omega, by omega⟩
        have e00 : ((0 : Int) != 0) = false := rfl
        simp only [wkA, Nat.reduceEqDiff, Nat.reduceAdd, Nat.reduceSub, Nat.reduceLeDiff, Nat.reduceLT, Nat.reduceBEq, Nat.reduceBNe, reduceCtorEq, binV, Bool.not_true, d1, d2]
        generalize shS p m a.neg a.s a.e = rm at *
        generalize shS p 2 a.neg a.s a.e = r2 at *
        generalize shS p 3 a.neg a.s a.e = r3 at *
        cases rm with
        | err k =>
          have hk : (k != 0) = true := bne_iff_ne.2 (erm k rfl)
          obtain ⟨y1, y2, y3, y4, hy⟩ := Rs.two r2
          obtain ⟨z1, z2, z3, z4, hz⟩ := Rs.two r3
          rw [hy] at c2
          rw [hz] at c3
          simp only [Rs.av, zD, D] at cm
          simp only [ic4_2, Pat.av, items, wkA, Nat.reduceEqDiff, Nat.reduceAdd, Nat.reduceSub, Nat.reduceLeDiff, Nat.reduceLT, Nat.reduceBEq, Nat.reduceBNe, reduceCtorEq, binV]
          refine callF cm rfl ?_
          simp only [wkA, Nat.reduceEqDiff, Nat.reduceAdd, Nat.reduceSub, Nat.reduceLeDiff, Nat.reduceLT, Nat.reduceBEq, Nat.reduceBNe, reduceCtorEq, binV]
          refine callF c3 rfl ?_
          simp only [wkA, Nat.reduceEqDiff, Nat.reduceAdd, Nat.reduceSub, Nat.reduceLeDiff, Nat.reduceLT, Nat.reduceBEq, Nat.reduceBNe, reduceCtorEq, binV]
          refine callF c2 rfl ?_
          simp only [wkA, Nat.reduceEqDiff, Nat.reduceAdd, Nat.reduceSub, Nat.reduceLeDiff, Nat.reduceLT, Nat.reduceBEq, Nat.reduceBNe, reduceCtorEq, binV, hk]
          refine callF c14 rfl ?_
          simp only [wkA, Nat.reduceEqDiff, Nat.reduceAdd, Nat.reduceSub, Nat.reduceLeDiff, Nat.reduceLT, Nat.reduceBEq, Nat.reduceBNe, reduceCtorEq, binV]
        | ok n q F =>
          obtain rfl := bdm n q F rfl
          cases r3 with
          | err k =>
            have hk : (k != 0) = true := bne_iff_ne.2 (er3 k rfl)
            obtain ⟨y1, y2, y3, y4, hy⟩ := Rs.two r2
            rw [hy] at c2
            simp only [Rs.av, zD, N, D] at cm c3
            generalize text (core q) = t1 at *
            generalize ne q F = x1 at *
            simp only [ic4_2, Pat.av, items, wkA, Nat.reduceEqDiff, Nat.reduceAdd, Nat.reduceSub, Nat.reduceLeDiff, Nat.reduceLT, Nat.reduceBEq, Nat.reduceBNe, reduceCtorEq, binV]
            refine callF cm rfl ?_
            simp only [wkA, Nat.reduceEqDiff, Nat.reduceAdd, Nat.reduceSub, Nat.reduceLeDiff, Nat.reduceLT, Nat.reduceBEq, Nat.reduceBNe, reduceCtorEq, binV]
            refine callF c3 rfl ?_
            simp only [wkA, Nat.reduceEqDiff, Nat.reduceAdd, Nat.reduceSub, Nat.reduceLeDiff, Nat.reduceLT, Nat.reduceBEq, Nat.reduceBNe, reduceCtorEq, binV]
            refine callF c2 rfl ?_
            simp only [wkA, Nat.reduceEqDiff, Nat.reduceAdd, Nat.reduceSub, Nat.reduceLeDiff, Nat.reduceLT, Nat.reduceBEq, Nat.reduceBNe, reduceCtorEq, binV, e00, hk]
            refine callF c14 rfl ?_
            simp only [wkA, Nat.reduceEqDiff, Nat.reduceAdd, Nat.reduceSub, Nat.reduceLeDiff, Nat.reduceLT, Nat.reduceBEq, Nat.reduceBNe, reduceCtorEq, binV]
          | ok n3 q3 F3 =>
            obtain rfl := bd3 n3 q3 F3 rfl
            cases r2 with
            | err k =>
              have hk : (k != 0) = true := bne_iff_ne.2 (er2 k rfl)
              simp only [Rs.av, zD, N, D] at cm c3 c2
              generalize text (core q) = t1 at *
              generalize ne q F = x1 at *
              generalize text (core q3) = t3 at *
              generalize ne q3 F3 = x3 at *
              simp only [ic4_2, Pat.av, items, wkA, Nat.reduceEqDiff, Nat.reduceAdd, Nat.reduceSub, Nat.reduceLeDiff, Nat.reduceLT, Nat.reduceBEq, Nat.reduceBNe, reduceCtorEq, binV]
              refine callF cm rfl ?_
              simp only [wkA, Nat.reduceEqDiff, Nat.reduceAdd, Nat.reduceSub, Nat.reduceLeDiff, Nat.reduceLT, Nat.reduceBEq, Nat.reduceBNe, reduceCtorEq, binV]
              refine callF c3 rfl ?_
              simp only [wkA, Nat.reduceEqDiff, Nat.reduceAdd, Nat.reduceSub, Nat.reduceLeDiff, Nat.reduceLT, Nat.reduceBEq, Nat.reduceBNe, reduceCtorEq, binV]
              refine callF c2 rfl ?_
              simp only [wkA, Nat.reduceEqDiff, Nat.reduceAdd, Nat.reduceSub, Nat.reduceLeDiff, Nat.reduceLT, Nat.reduceBEq, Nat.reduceBNe, reduceCtorEq, binV, e00, hk]
              refine callF c14 rfl ?_
              simp only [wkA, Nat.reduceEqDiff, Nat.reduceAdd, Nat.reduceSub, Nat.reduceLeDiff, Nat.reduceLT, Nat.reduceBEq, Nat.reduceBNe, reduceCtorEq, binV]
            | ok n2 q2 F2 =>
              obtain rfl := bd2 n2 q2 F2 rfl
              simp only [Rs.av, zD, N, D] at cm c3 c2
              have eqs : (t1 t2 : List UInt8) → (x1 x2 : Int) → eqCells [AV.bool a.neg, .str t1, i64 x1] [AV.bool a.neg, .str t2, i64 x2] = some ((t1 == t2) && (x1 == x2)) := by
                intro t1 t2 x1 x2
                simp [eqCells, eqCell]
              have hw' : q = q3 ∧ F = F3 ∨ ((q == q3) = false ∨ (F == F3) = false) ∧ q = q2 ∧ F = F2 := by
                by_cases hq : q = q3 ∧ F = F3
                · exact .inl hq
                · refine .inr ⟨?_, ?_⟩
                  · by_cases h : q = q3
                    · exact .inr (beq_eq_false_iff_ne.2 fun e => hq ⟨h, e⟩)
                    · exact .inl (beq_eq_false_iff_ne.2 h)
                  · rcases hw with h | h
                    · injection h with h1 h2 h3; exact ⟨h2, h3⟩
                    · injection h with h1 h2 h3; exact absurd ⟨h2, h3⟩ hq
              have nn : (a.neg == a.neg) = true := beq_self_eq_true _
              have key : (text (core q) == text (core q3) && ne q F == ne q3 F3) = true ∨ (text (core q) == text (core q3) && ne q F == ne q3 F3) = false ∧ (text (core q) == text (core q2) && ne q F == ne q2 F2) = true := by
                rcases hw' with ⟨rfl, rfl⟩ | ⟨_, rfl, rfl⟩
                · exact .inl (by simp)
                · cases h : (text (core q) == text (core q3) && ne q F == ne q3 F3) with
                  | true => exact .inl rfl
                  | false => exact .inr ⟨rfl, by simp⟩
              clear hw hw'
              generalize text (core q) = t1 at *
              generalize ne q F = x1 at *
              generalize text (core q3) = t3 at *
              generalize ne q3 F3 = x3 at *
              generalize text (core q2) = t2 at *
              generalize ne q2 F2 = x2 at *
              have q3' := eqs t1 t3 x1 x3
              have q2' := eqs t1 t2 x1 x2
              clear eqs
              rcases key with k3 | ⟨k3, k2⟩
              · rw [k3] at q3'
                simp only [ic4_2, Pat.av, items, wkA, Nat.reduceEqDiff, Nat.reduceAdd, Nat.reduceSub, Nat.reduceLeDiff, Nat.reduceLT, Nat.reduceBEq, Nat.reduceBNe, reduceCtorEq, binV]
                refine callF cm rfl ?_
                simp only [wkA, Nat.reduceEqDiff, Nat.reduceAdd, Nat.reduceSub, Nat.reduceLeDiff, Nat.reduceLT, Nat.reduceBEq, Nat.reduceBNe, reduceCtorEq, binV]
                refine callF c3 rfl ?_
                simp only [wkA, Nat.reduceEqDiff, Nat.reduceAdd, Nat.reduceSub, Nat.reduceLeDiff, Nat.reduceLT, Nat.reduceBEq, Nat.reduceBNe, reduceCtorEq, binV]
                refine callF c2 rfl ?_
                simp only [wkA, Nat.reduceEqDiff, Nat.reduceAdd, Nat.reduceSub, Nat.reduceLeDiff, Nat.reduceLT, Nat.reduceBEq, Nat.reduceBNe, reduceCtorEq, binV, e00]
                simp only [ic4_1, wkA, Nat.reduceEqDiff, Nat.reduceAdd, Nat.reduceSub, Nat.reduceLeDiff, Nat.reduceLT, Nat.reduceBEq, Nat.reduceBNe, reduceCtorEq, binV]
                refine callF c14 rfl ?_
                simp only [wkA, Nat.reduceEqDiff, Nat.reduceAdd, Nat.reduceSub, Nat.reduceLeDiff, Nat.reduceLT, Nat.reduceBEq, Nat.reduceBNe, reduceCtorEq, binV, q3', ckind, nn]
              · rw [k3] at q3'
                rw [k2] at q2'
                simp only [ic4_2, Pat.av, items, wkA, Nat.reduceEqDiff, Nat.reduceAdd, Nat.reduceSub, Nat.reduceLeDiff, Nat.reduceLT, Nat.reduceBEq, Nat.reduceBNe, reduceCtorEq, binV]
                refine callF cm rfl ?_
                simp only [wkA, Nat.reduceEqDiff, Nat.reduceAdd, Nat.reduceSub, Nat.reduceLeDiff, Nat.reduceLT, Nat.reduceBEq, Nat.reduceBNe, reduceCtorEq, binV]
                refine callF c3 rfl ?_
                simp only [wkA, Nat.reduceEqDiff, Nat.reduceAdd, Nat.reduceSub, Nat.reduceLeDiff, Nat.reduceLT, Nat.reduceBEq, Nat.reduceBNe, reduceCtorEq, binV]
                refine callF c2 rfl ?_
                simp only [wkA, Nat.reduceEqDiff, Nat.reduceAdd, Nat.reduceSub, Nat.reduceLeDiff, Nat.reduceLT, Nat.reduceBEq, Nat.reduceBNe, reduceCtorEq, binV, e00]
                simp only [ic4_1, wkA, Nat.reduceEqDiff, Nat.reduceAdd, Nat.reduceSub, Nat.reduceLeDiff, Nat.reduceLT, Nat.reduceBEq, Nat.reduceBNe, reduceCtorEq, binV]
                refine callF c14 rfl ?_
                simp only [wkA, Nat.reduceEqDiff, Nat.reduceAdd, Nat.reduceSub, Nat.reduceLeDiff, Nat.reduceLT, Nat.reduceBEq, Nat.reduceBNe, reduceCtorEq, binV, q3', q2', ckind, nn]

/-- THE CONTRACT of GridZero. -/
theorem con5 (s : List UInt8) (m : Int) (a : Dm) (hs : s.length < 1099511627776) (ha : a.s.length < 1099511627776) : Fn 5 [.str s, i64 m, a.av] (.bool true) := by
  have c12 := con12 (l := [a]) hs (by simp) (by intro d hd; simp only [List.mem_cons, List.not_mem_nil, or_false] at hd; rcases hd with rfl; assumption)
  have c14 := con14
  have hp := cmpP_ok s
  generalize hg : (patG s && [a].all Dm.in_) = g at c12
  clear hg
  generalize cmpP s = p at *
  have bdm := fun (r1 : Bool) (q1 : Nat) (F1 : Int) (x : shS p m a.neg a.s a.e = .ok r1 q1 F1) => (shS_bd hp.ok x).1
  have erm := fun k (x : shS p m a.neg a.s a.e = .err k) => shS_err x
  have zer := fun h : 0 ≤ m ∧ m ≤ 6 => shS_zero hp h a.neg
  have cm := con15 hp.ok (m := m) (neg := a.neg) (s := a.s) (e := a.e)
  have cz := con15 hp.ok (m := m) (neg := a.neg) (s := [48]) (e := 0)
  have ci := con16 hp.ok (neg := a.neg) (s := [48]) (e := 0) ⟨by rfl, by simp, by simp, by omega, by omega⟩ (by omega) (by simp)
  have d0 : dv [48] = 0 := rfl
  rw [d0, core_zero, isS_zero hp] at ci
  refine e5 (by simp) ?_
  simp only [Pat.av, items, List.map_cons, List.map_nil, Dm.av, D] at c12 cm cz ci
  simp only [ic5, Dm.av, D, wkA, Nat.reduceEqDiff, Nat.reduceAdd, Nat.reduceSub, Nat.reduceLeDiff, Nat.reduceLT, Nat.reduceBEq, Nat.reduceBNe, reduceCtorEq, binV]
  refine callF c12 rfl ?_
  cases g with
  | false =>
    simp only [wkA, Nat.reduceEqDiff, Nat.reduceAdd, Nat.reduceSub, Nat.reduceLeDiff, Nat.reduceLT, Nat.reduceBEq, Nat.reduceBNe, reduceCtorEq, binV, Bool.not_false]
    refine callF c14 rfl ?_
    simp only [wkA, Nat.reduceEqDiff, Nat.reduceAdd, Nat.reduceSub, Nat.reduceLeDiff, Nat.reduceLT, Nat.reduceBEq, Nat.reduceBNe, reduceCtorEq, binV]
  | true =>
    by_cases h1 : m < 0
    · have d1 : decide (m < 0) = true := decide_eq_true h1
      simp only [wkA, Nat.reduceEqDiff, Nat.reduceAdd, Nat.reduceSub, Nat.reduceLeDiff, Nat.reduceLT, Nat.reduceBEq, Nat.reduceBNe, reduceCtorEq, binV, Bool.not_true, d1]
      refine callF c14 rfl ?_
      simp only [wkA, Nat.reduceEqDiff, Nat.reduceAdd, Nat.reduceSub, Nat.reduceLeDiff, Nat.reduceLT, Nat.reduceBEq, Nat.reduceBNe, reduceCtorEq, binV]
    · have d1 : decide (m < 0) = false := decide_eq_false h1
      by_cases h2 : m > 6
      · have d2 : decide (m > 6) = true := decide_eq_true h2
        simp only [wkA, Nat.reduceEqDiff, Nat.reduceAdd, Nat.reduceSub, Nat.reduceLeDiff, Nat.reduceLT, Nat.reduceBEq, Nat.reduceBNe, reduceCtorEq, binV, Bool.not_true, d1, d2]
        refine callF c14 rfl ?_
        simp only [wkA, Nat.reduceEqDiff, Nat.reduceAdd, Nat.reduceSub, Nat.reduceLeDiff, Nat.reduceLT, Nat.reduceBEq, Nat.reduceBNe, reduceCtorEq, binV]
      · have d2 : decide (m > 6) = false := decide_eq_false h2
        obtain ⟨E0, hz⟩ := zer ⟨by omega, by omega⟩
        rw [hz] at cz
        have hz0 : Rs.av (.ok a.neg 0 E0) = .tup [.agg [.bool a.neg, .str [48], i64 0], i64 0] := by
          simp only [Rs.av, N, D, core_zero, ne_zero]
          rfl
        rw [hz0] at cz
        have e00 : ((0 : Int) != 0) = false := rfl
        have e01 : ((0 : Int) == 0) = true := rfl
        have nn : (a.neg == a.neg) = true := beq_self_eq_true _
        have q0 : eqCells [AV.bool a.neg, .str [48], i64 0] [AV.bool a.neg, .str [48], i64 0] = some true := by simp [eqCells, eqCell]
        simp only [wkA, Nat.reduceEqDiff, Nat.reduceAdd, Nat.reduceSub, Nat.reduceLeDiff, Nat.reduceLT, Nat.reduceBEq, Nat.reduceBNe, reduceCtorEq, binV, Bool.not_true, d1, d2]
        generalize shS p m a.neg a.s a.e = rm at *
        cases rm with
        | err k =>
          have hk : (k != 0) = true := bne_iff_ne.2 (erm k rfl)
          simp only [Rs.av, zD, D] at cm
          simp only [ic5_1, Pat.av, items, wkA, Nat.reduceEqDiff, Nat.reduceAdd, Nat.reduceSub, Nat.reduceLeDiff, Nat.reduceLT, Nat.reduceBEq, Nat.reduceBNe, reduceCtorEq, binV]
          refine callF cz rfl ?_
          simp only [wkA, Nat.reduceEqDiff, Nat.reduceAdd, Nat.reduceSub, Nat.reduceLeDiff, Nat.reduceLT, Nat.reduceBEq, Nat.reduceBNe, reduceCtorEq, binV]
          refine callF cm rfl ?_
          simp only [wkA, Nat.reduceEqDiff, Nat.reduceAdd, Nat.reduceSub, Nat.reduceLeDiff, Nat.reduceLT, Nat.reduceBEq, Nat.reduceBNe, reduceCtorEq, binV]
          refine callF c14 rfl ?_
          simp only [wkA, Nat.reduceEqDiff, Nat.reduceAdd, Nat.reduceSub, Nat.reduceLeDiff, Nat.reduceLT, Nat.reduceBEq, Nat.reduceBNe, reduceCtorEq, binV]
          refine callF ci rfl ?_
          simp only [wkA, Nat.reduceEqDiff, Nat.reduceAdd, Nat.reduceSub, Nat.reduceLeDiff, Nat.reduceLT, Nat.reduceBEq, Nat.reduceBNe, reduceCtorEq, binV, e01, q0, ckind, hk]
        | ok n q F =>
          obtain rfl := bdm n q F rfl
          simp only [Rs.av, zD, N, D] at cm
          generalize text (core q) = t1 at *
          generalize ne q F = x1 at *
          simp only [ic5_1, Pat.av, items, wkA, Nat.reduceEqDiff, Nat.reduceAdd, Nat.reduceSub, Nat.reduceLeDiff, Nat.reduceLT, Nat.reduceBEq, Nat.reduceBNe, reduceCtorEq, binV]
          refine callF cz rfl ?_
          simp only [wkA, Nat.reduceEqDiff, Nat.reduceAdd, Nat.reduceSub, Nat.reduceLeDiff, Nat.reduceLT, Nat.reduceBEq, Nat.reduceBNe, reduceCtorEq, binV]
          refine callF cm rfl ?_
          simp only [wkA, Nat.reduceEqDiff, Nat.reduceAdd, Nat.reduceSub, Nat.reduceLeDiff, Nat.reduceLT, Nat.reduceBEq, Nat.reduceBNe, reduceCtorEq, binV]
          refine callF c14 rfl ?_
          simp only [wkA, Nat.reduceEqDiff, Nat.reduceAdd, Nat.reduceSub, Nat.reduceLeDiff, Nat.reduceLT, Nat.reduceBEq, Nat.reduceBNe, reduceCtorEq, binV]
          refine callF ci rfl ?_
          simp only [wkA, Nat.reduceEqDiff, Nat.reduceAdd, Nat.reduceSub, Nat.reduceLeDiff, Nat.reduceLT, Nat.reduceBEq, Nat.reduceBNe, reduceCtorEq, binV, e01, e00, q0, ckind, nn]
end Go.Proofs.YtgehlcgjchfibaaGreatDoor.F
