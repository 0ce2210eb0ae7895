/- What is joined has all bytes of all parts, in their order: for all pages; beyond the bounds the law asks nothing. -/
import Derived.Test.YteoclecadpapfaaG9
import Derived.Test.YteoclecadpapfaaM18
namespace Go.Proofs.Yteoclecadpapfaa.Pure
open Go.RowKit Go.Proofs.Yteoclecadpapfaa.G Go.Proofs.YteoclecadpapfaaW.PrintWords Go.Proofs.YteoclecadpapfaaW.PrintLast Go.Proofs.YteoclecadpapfaaW.PrintMore
/-- All bytes of all parts. -/
def allB : List S43 → List Int
  | [] => []
  | p :: l => p.f6.flatten ++ allB l
def oneP (p : S43) : Nat := p.f6.length - (if p.f4 = true ∧ p.f6 ≠ [] then 1 else 0)
/-- How many parts begin. -/
def cntB : List S43 → Nat
  | [] => 0
  | p :: l => oneP p + cntB l
theorem joinGo_spec (l : List S43) : ∀ (prev : Option Int) (o : Bool) (out : List (List Int)), (o = true → out ≠ []) →
    ((joinGo l prev o out).2 = 0 → (joinGo l prev o out).1.flatten = out.flatten ++ allB l ∧ (joinGo l prev o out).1.length = out.length + cntB l) ∧ (¬ (joinGo l prev o out).2 = 0 → (joinGo l prev o out).1 = []) := by
  induction l with
  | nil =>
    intro prev o out ho
    rw [joinGo]
    cases o with
    | true =>
      rw [if_pos rfl]
      exact ⟨fun h => absurd h (by decide), fun _ => rfl⟩
    | false =>
      rw [if_neg (by simp)]
      exact ⟨fun _ => ⟨by simp [allB], rfl⟩, fun h => absurd rfl h⟩
  | cons p l ih =>
    intro prev o out ho
    rw [joinGo]
    cases hr : pageRight p.f0 p.f1 p.f5 p.f6 with
    | false =>
      rw [if_pos rfl]
      exact ⟨fun h => absurd h (by decide), fun _ => rfl⟩
    | true =>
      rw [if_neg (by simp)]
      by_cases hx : (p.f4 != o) = true ∨ badNext prev p.f0 = true ∨ (p.f4 = true ∧ p.f6 = [])
      · rw [if_pos hx]
        exact ⟨fun h => absurd h (by decide), fun _ => rfl⟩
      · rw [if_neg hx]
        have hco : p.f4 = true → out ≠ [] := fun h => ho (by
          have : ¬ (p.f4 != o) = true := fun h' => hx (.inl h')
          rw [h] at this
          cases o with
          | true => rfl
          | false => exact absurd rfl this)
        have hal := addParts_length out p.f4 p.f6
        have haf := addParts_flatten out p.f4 p.f6 hco
        have hri := (pageRight_iff ..).mp hr
        have h1 : p.f4 = true ∧ p.f6 ≠ [] → 1 ≤ out.length ∧ 1 ≤ p.f6.length := fun h => ⟨List.length_pos_iff.mpr (hco h.1), List.length_pos_iff.mpr h.2⟩
        have hone : out.length + p.f6.length - (if p.f4 = true ∧ p.f6 ≠ [] then 1 else 0) = out.length + oneP p := by
          unfold oneP
          by_cases hc : p.f4 = true ∧ p.f6 ≠ []
          · have := h1 hc
            rw [if_pos hc]
            omega
          · rw [if_neg hc]
            omega
        obtain ⟨i1, i2⟩ := ih (some p.f0) p.f5 (addParts out p.f4 p.f6) (fun hm he => by
          have h8 := (hri.2.2.2.2.2 hm).1
          have h9 := congrArg List.length he
          rw [hal, List.length_nil] at h9
          by_cases hc : p.f4 = true ∧ p.f6 ≠ []
          · have := h1 hc
            rw [if_pos hc] at h9
            omega
          · rw [if_neg hc] at h9
            omega)
        refine ⟨fun h => ?_, i2⟩
        obtain ⟨j1, j2⟩ := i1 h
        refine ⟨?_, ?_⟩
        · rw [j1, haf, allB, List.append_assoc]
        · rw [j2, hal, hone, cntB]
          omega
theorem whole_l2 (all : List Int) (n : Nat) (a : List (List Int)) (ha : a.length = n) (hn : n ≤ 1000000) (hl : all.length ≤ 100000000) : ∀ (d j : Nat) (got : List Int), j ≤ a.length → a.length - j = d → got ++ (a.drop j).flatten = all → Ev (fun k => psalterylaw18_PageWhole.l2 k all (n : Int) a got (j : Int)) true := by
  intro d
  induction d with
  | zero =>
    intro j got hj hd hg
    obtain rfl : j = a.length := by omega
    rw [List.drop_length, List.flatten_nil, List.append_nil] at hg
    subst hg
    have e : (a.length : Int) = (n : Int) := by omega
    refine Ev.step (f := fun _ => some true) (fun k => ?_) (Ev.now _)
    simp only [psalterylaw18_PageWhole.l2]
    rw [if_neg (Int.lt_irrefl _), if_pos trivial, if_pos e]
    rfl
  | succ d ih =>
    intro j got hj hd hg
    have hj1 : j < a.length := by omega
    have g1 : (j : Int) < (a.length : Int) := by omega
    have g2 : (0 : Int) ≤ (j : Int) := by omega
    have g3 : got.length + (rd_L3 a (j : Int)).length < 140737488355328 := by
      have := congrArg List.length hg
      rw [drop_cons a j hj1, List.flatten_cons, List.length_append, List.length_append] at this
      omega
    rw [drop_cons a j hj1, List.flatten_cons, ← List.append_assoc] at hg
    refine Ev.step (fun k => ?_) (ih (j + 1) _ (by omega) (by omega) hg)
    simp only [psalterylaw18_PageWhole.l2]
    rw [if_pos g1, if_pos g2, if_pos g3, wsucc j (by omega)]
theorem whole_l1 (l : List S43) (j : Nat) (hj : j < l.length) (hjl : j ≤ 100) (hs : (rd_T43 l (j : Int)).f6.length ≤ 300) (hb : ∀ b ∈ (rd_T43 l (j : Int)).f6, b.length ≤ 70000) : ∀ (d m n : Nat) (z : List Int), m ≤ (rd_T43 l (j : Int)).f6.length → (rd_T43 l (j : Int)).f6.length - m = d → z.length ≤ 100000000 + 70000 * m → n ≤ 1000000 + m →
    Ev (fun k => psalterylaw18_PageWhole.l0 k l (z ++ ((rd_T43 l (j : Int)).f6.drop m).flatten) ((n + (d - (if m = 0 ∧ (rd_T43 l (j : Int)).f4 = true ∧ (rd_T43 l (j : Int)).f6 ≠ [] then 1 else 0)) : Nat) : Int) ((j + 1 : Nat) : Int)) true →
    Ev (fun k => psalterylaw18_PageWhole.l1 k l z (n : Int) (j : Int) (m : Int)) true := by
  obtain ⟨p, hp⟩ : ∃ p, rd_T43 l (j : Int) = p := ⟨_, rfl⟩
  rw [hp] at hs hb ⊢
  have g1 : (0 : Int) ≤ (j : Int) := by omega
  have g2 : (j : Int) < (l.length : Int) := by omega
  intro d
  induction d with
  | zero =>
    intro m n z hm hd hz hn H
    obtain rfl : m = p.f6.length := by omega
    have e0 : ∀ c : Nat, n + (0 - c) = n := fun c => by omega
    rw [List.drop_length, List.flatten_nil, List.append_nil, e0] at H
    refine Ev.step (fun k => ?_) H
    simp only [psalterylaw18_PageWhole.l1, hp]
    rw [if_pos g1, if_pos g2, if_neg (Int.lt_irrefl _), wsucc j (by omega)]
  | succ d ih =>
    intro m n z hm hd hz hn H
    have hm1 : m < p.f6.length := by omega
    have g3 : (m : Int) < (p.f6.length : Int) := by omega
    have g4 : (0 : Int) ≤ (m : Int) := by omega
    have hbl := hb _ (rd_L3_mem p.f6 m hm1)
    have g5 : z.length + (rd_L3 p.f6 (m : Int)).length < 140737488355328 := by omega
    have hne : p.f6 ≠ [] := List.length_pos_iff.mp (by omega)
    rw [drop_cons p.f6 m hm1, List.flatten_cons, ← List.append_assoc] at H
    have hzl : (z ++ rd_L3 p.f6 (m : Int)).length ≤ 100000000 + 70000 * (m + 1) := by rw [List.length_append]; omega
    have hno : (if m + 1 = 0 ∧ p.f4 = true ∧ p.f6 ≠ [] then 1 else 0) = 0 := if_neg (fun h => absurd h.1 (by omega))
    by_cases hc : m = 0 ∧ p.f4 = true
    · have e1 : n + (d + 1 - 1) = n + d := by omega
      rw [if_pos ⟨hc.1, hc.2, hne⟩, e1] at H
      refine Ev.step (fun k => ?_) (ih (m + 1) n (z ++ rd_L3 p.f6 (m : Int)) (by omega) (by omega) hzl (by omega) (by rw [hno]; exact H))
      simp only [psalterylaw18_PageWhole.l1, hp]
      rw [if_pos g1, if_pos g2, if_pos g3, if_pos g4, if_pos g5, Option.bind_some, if_neg (show ¬ (m : Int) > 0 by omega), if_pos hc.2, wsucc m (by omega)]
    · have e1 : n + (d + 1 - 0) = n + 1 + (d - 0) := by omega
      rw [if_neg (fun h => hc ⟨h.1, h.2.1⟩), e1] at H
      refine Ev.step (fun k => ?_) (ih (m + 1) (n + 1) (z ++ rd_L3 p.f6 (m : Int)) (by omega) (by omega) hzl (by omega) (by rw [hno]; exact H))
      simp only [psalterylaw18_PageWhole.l1, hp]
      rw [if_pos g1, if_pos g2, if_pos g3, if_pos g4, if_pos g5, Option.bind_some, wsucc m (by omega), wsucc n (by omega)]
      by_cases h0 : (m : Int) > 0
      · rw [if_pos h0]
      · rw [if_neg h0, if_neg (fun h => hc ⟨by omega, h⟩)]
theorem PageWhole (l : List S43) : ∃ k, psalterylaw18_PageWhole.f k l = some true := by
  unfold psalterylaw18_PageWhole.f
  by_cases h20 : (l.length : Int) > 20
  · exact ⟨0, by rw [if_pos h20]; rfl⟩
  · simp only [if_neg h20]
    refine Ev.rounds ?_
    have go : ∀ (d j n : Nat) (z : List Int), j ≤ l.length → l.length - j = d → z.length ≤ 80000 * j → n ≤ 300 * j → z ++ allB (l.drop j) = allB l → n + cntB (l.drop j) = cntB l → (∀ q ∈ l.take j, smallP q.f6) →
        Ev (fun k => psalterylaw18_PageWhole.l0 k l z (n : Int) (j : Int)) true := by
      intro d
      induction d with
      | zero =>
        intro j n z hj hd hz hn ha hc hsm
        obtain rfl : j = l.length := by omega
        rw [List.drop_length, allB, List.append_nil] at ha
        rw [List.drop_length, cntB, Nat.add_zero] at hc
        rw [List.take_length] at hsm
        have hJ : page_Join.f l = some (joinGo l none false []) := by
          unfold page_Join.f
          exact if_pos ⟨by omega, hsm⟩
        obtain ⟨i1, i2⟩ := joinGo_spec l none false [] (fun h => by cases h)
        obtain ⟨r, hr⟩ : ∃ r, joinGo l none false [] = r := ⟨_, rfl⟩
        rw [hr] at hJ i1 i2
        by_cases he : r.2 = 0
        · obtain ⟨j1, j2⟩ := i1 he
          rw [List.flatten_nil, List.nil_append] at j1
          rw [List.length_nil, Nat.zero_add] at j2
          have H := whole_l2 z n r.1 (by omega) (by omega) (by omega) r.1.length 0 [] (by omega) (by omega) (by rw [List.nil_append, List.drop_zero, j1, ha])
          refine Ev.step (fun k => ?_) H
          simp only [psalterylaw18_PageWhole.l0]
          rw [if_neg (Int.lt_irrefl _), hJ, Option.bind_some, if_pos he]
          rfl
        · refine Ev.step (f := fun _ => some true) (fun k => ?_) (Ev.now _)
          have e0 : (r.1.length : Int) = 0 := by rw [i2 he]; rfl
          simp only [psalterylaw18_PageWhole.l0]
          rw [if_neg (Int.lt_irrefl _), hJ, Option.bind_some, if_neg he, if_pos e0]
          rfl
      | succ d ih =>
        intro j n z hj hd hz hn ha hc hsm
        have hj1 : j < l.length := by omega
        have g1 : (j : Int) < (l.length : Int) := by omega
        have g2 : (0 : Int) ≤ (j : Int) := by omega
        cases hg : greatB (rd_T43 l (j : Int)).f6 with
        | true =>
          refine Ev.step (f := fun _ => some true) (fun k => ?_) (Ev.now _)
          simp only [psalterylaw18_PageWhole.l0]
          rw [if_pos g1, if_pos g2, psalterylaw18_great.f, Option.bind_some, hg, if_pos rfl]
          rfl
        | false =>
          obtain ⟨hs, hf⟩ := greatB_small _ hg
          have h300 : (rd_T43 l (j : Int)).f6.length ≤ 300 := by
            have h' := of_decide_eq_false hg
            have h1 : ¬ 300 < (rd_T43 l (j : Int)).f6.length := fun x => h' (.inl x)
            omega
          rw [drop_T43 l j hj1, allB, ← List.append_assoc] at ha
          rw [drop_T43 l j hj1, cntB] at hc
          have hone : oneP (rd_T43 l (j : Int)) ≤ 300 := by unfold oneP; omega
          have hnx := ih (j + 1) (n + oneP (rd_T43 l (j : Int))) (z ++ (rd_T43 l (j : Int)).f6.flatten) (by omega) (by omega) (by rw [List.length_append]; omega) (by omega) ha (by omega) (fun q hq => by
            rw [List.take_succ_eq_append_getElem hj1] at hq
            rcases List.mem_append.mp hq with hq | hq
            · exact hsm q hq
            · rw [List.mem_singleton] at hq
              have e : rd_T43 l (j : Int) = l[j] := by
                unfold rd_T43
                rw [Int.toNat_natCast, List.getD_eq_getElem?_getD, List.getElem?_eq_getElem hj1]
                rfl
              rw [hq, ← e]
              exact hs)
          have H := whole_l1 l j hj1 (by omega) h300 hs.2 ((rd_T43 l (j : Int)).f6.length) 0 n z (by omega) (by omega) (by omega) (by omega) (by
            rw [List.drop_zero]
            have e : (if 0 = 0 ∧ (rd_T43 l (j : Int)).f4 = true ∧ (rd_T43 l (j : Int)).f6 ≠ [] then 1 else 0) = (if (rd_T43 l (j : Int)).f4 = true ∧ (rd_T43 l (j : Int)).f6 ≠ [] then 1 else 0) := by simp
            rw [e]
            exact hnx)
          refine Ev.step (fun k => ?_) H
          simp only [psalterylaw18_PageWhole.l0]
          rw [if_pos g1, if_pos g2, psalterylaw18_great.f, Option.bind_some, hg, if_neg (by simp)]
          rfl
    exact go l.length 0 0 [] (by omega) (by omega) (by simp) (by omega) (by rw [List.drop_zero, List.nil_append]) (by rw [List.drop_zero, Nat.zero_add]) (fun q hq => by simp at hq)
end Go.Proofs.Yteoclecadpapfaa.Pure
