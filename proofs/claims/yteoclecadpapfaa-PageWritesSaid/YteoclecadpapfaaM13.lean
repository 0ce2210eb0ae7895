/- Laces, right pages, a page's bytes; parts told from laces; what reading answers; the packets of pages. -/
import Derived.Test.YteoclecadpapfaaG0
import Derived.Test.YteoclecadpapfaaM4
import Derived.Test.YteoclecadpapfaaM5
namespace Go.Proofs.Yteoclecadpapfaa.G
open Go.RowKit Go.Proofs.YteoclecadpapfaaW.PrintWords Go.Proofs.YteoclecadpapfaaW.PrintMore
theorem wid (x : Nat) (h : x ≤ 1000000000000) : wrap64 (x : Int) = (x : Int) := wrap64_of (by omega) (by omega)
theorem wadd (a b : Nat) (h : a + b ≤ 1000000000000) : wrap64 ((a : Int) + (b : Int)) = ((a + b : Nat) : Int) := by
  rw [wrap64_of (by omega) (by omega)]
  omega
theorem wsucc (j : Nat) (h : j ≤ 1000000000) : wrap64 ((j : Int) + 1) = ((j + 1 : Nat) : Int) := wadd j 1 (by omega)
def laceO (n : Nat) : List Int := List.replicate (n / 255) 255
def laceC (n : Nat) : List Int := laceO n ++ [((n % 255 : Nat) : Int)]
def lacesL (more : Bool) : List (List Int) → List Int
  | [] => []
  | b :: r => (if more = true ∧ r = [] then laceO b.length else laceC b.length) ++ lacesL more r
/-- No more parts than a thousand, none greater than 70000 bytes. -/
def smallP (p : List (List Int)) : Prop := p.length ≤ 1000 ∧ ∀ b ∈ p, b.length ≤ 70000
instance (p : List (List Int)) : Decidable (smallP p) := by unfold smallP; infer_instance
def okP (p : List (List Int)) : Prop := ∀ b ∈ p, okB b
theorem drop_cons (p : List (List Int)) (j : Nat) (h : j < p.length) : p.drop j = rd_L3 p (j : Int) :: p.drop (j + 1) := by
  rw [List.drop_eq_getElem_cons h]
  unfold rd_L3
  rw [Int.toNat_natCast, List.getD_eq_getElem?_getD, List.getElem?_eq_getElem h]
  rfl
theorem rd_L3_mem (p : List (List Int)) (j : Nat) (h : j < p.length) : rd_L3 p (j : Int) ∈ p := by
  unfold rd_L3
  rw [Int.toNat_natCast, List.getD_eq_getElem?_getD, List.getElem?_eq_getElem h]
  exact List.getElem_mem h
theorem laceO_length (n : Nat) : (laceO n).length = n / 255 := by simp [laceO]
theorem laceC_length (n : Nat) : (laceC n).length = n / 255 + 1 := by simp [laceC, laceO]
theorem laceO_step (n : Nat) (h : 255 ≤ n) : laceO n = 255 :: laceO (n - 255) := by
  have e : n / 255 = (n - 255) / 255 + 1 := by omega
  unfold laceO
  rw [e, List.replicate_succ]
theorem laceO_small (n : Nat) (h : n < 255) : laceO n = [] := by
  unfold laceO
  rw [Nat.div_eq_of_lt h]
  rfl
theorem laceC_step (n : Nat) (h : 255 ≤ n) : laceC n = 255 :: laceC (n - 255) := by
  unfold laceC
  rw [laceO_step n h, List.cons_append, show (n - 255) % 255 = n % 255 by omega]
theorem laceC_small (n : Nat) (h : n < 255) : laceC n = [(n : Int)] := by
  unfold laceC
  rw [laceO_small n h, List.nil_append, Nat.mod_eq_of_lt h]
theorem lacesL_le (more : Bool) (p : List (List Int)) (h : ∀ b ∈ p, b.length ≤ 70000) : (lacesL more p).length ≤ 276 * p.length := by
  induction p with
  | nil => simp [lacesL]
  | cons b r ih =>
    have h1 := h b (by simp)
    have h2 := ih (fun x hx => h x (by simp [hx]))
    rw [lacesL, List.length_append, List.length_cons]
    split
    · rw [laceO_length]; omega
    · rw [laceC_length]; omega
theorem lacesL_drop (more : Bool) (p : List (List Int)) (j : Nat) (h : j < p.length) : lacesL more (p.drop j) = (if more = true ∧ p.length = j + 1 then laceO (rd_L3 p (j : Int)).length else laceC (rd_L3 p (j : Int)).length) ++ lacesL more (p.drop (j + 1)) := by
  rw [drop_cons p j h, lacesL]
  congr 1
  have e : (p.drop (j + 1) = []) = (p.length = j + 1) := by
    rw [List.drop_eq_nil_iff]
    exact propext ⟨fun h' => by omega, fun h' => by omega⟩
  simp only [e]
/-- One more than the laces, but for an open end. -/
def cntL : List (List Int) → Nat
  | [] => 0
  | b :: r => (b.length / 255 + 1) + cntL r
theorem cntL_le (more : Bool) (p : List (List Int)) : cntL p ≤ (lacesL more p).length + 1 := by
  induction p with
  | nil => simp [cntL]
  | cons b r ih =>
    rw [cntL, lacesL, List.length_append]
    split
    · next h =>
      rw [laceO_length, h.2]
      simp [cntL, lacesL]
    · rw [laceC_length]; omega
def lastL (p : List (List Int)) : List Int := rd_L3 p ((p.length : Int) - 1)
/-- Which pages are right. -/
def pageRight (seq gran : Int) (more : Bool) (p : List (List Int)) : Bool :=
  decide (0 ≤ seq ∧ seq ≤ 4294967295 ∧ 0 ≤ gran ∧ gran ≤ 4611686018427387904 ∧ (lacesL more p).length ≤ 255 ∧ (more = true → 0 < p.length ∧ 0 < (lastL p).length ∧ (lastL p).length % 255 = 0))
theorem pageRight_iff (seq gran : Int) (more : Bool) (p : List (List Int)) : pageRight seq gran more p = true ↔
  (0 ≤ seq ∧ seq ≤ 4294967295 ∧ 0 ≤ gran ∧ gran ≤ 4611686018427387904 ∧ (lacesL more p).length ≤ 255 ∧ (more = true → 0 < p.length ∧ 0 < (lastL p).length ∧ (lastL p).length % 255 = 0)) := by
  unfold pageRight
  exact decide_eq_true_iff
def flagI (first last cont : Bool) : Int := (if cont then 1 else 0) + (if first then 2 else 0) + (if last then 4 else 0)
def pageHead (seq gran : Int) (first last cont : Bool) : List Int := [80, 83, 76, 84, flagI first last cont] ++ lowI gran 8 ++ lowI seq 4
def pageTail (more : Bool) (p : List (List Int)) : List Int := [(((lacesL more p).length : Nat) : Int)] ++ lacesL more p ++ p.flatten
/-- A page's bytes, with a sum. -/
def pageWith (seq gran : Int) (first last cont more : Bool) (p : List (List Int)) (s : Int) : List Int := pageHead seq gran first last cont ++ lowI s 4 ++ pageTail more p
def pageSumOf (t : List Int) (seq gran : Int) (first last cont more : Bool) (p : List (List Int)) : Int := sumI t (pageWith seq gran first last cont more p 0)
/-- A page's bytes. -/
def pageBytes (t : List Int) (seq gran : Int) (first last cont more : Bool) (p : List (List Int)) : List Int := pageWith seq gran first last cont more p (pageSumOf t seq gran first last cont more p)
theorem pageHead_length (seq gran : Int) (first last cont : Bool) : (pageHead seq gran first last cont).length = 17 := by simp [pageHead, lowI_length]
theorem pageWith_length (seq gran : Int) (first last cont more : Bool) (p : List (List Int)) (s : Int) : (pageWith seq gran first last cont more p s).length = 22 + (lacesL more p).length + p.flatten.length := by
  simp only [pageWith, pageTail, List.length_append, pageHead_length, lowI_length, List.length_cons, List.length_nil]
  omega
end Go.Proofs.Yteoclecadpapfaa.G
namespace Go.Proofs.Yteoclecadpapfaa.G
open Go.RowKit Go.Proofs.YteoclecadpapfaaW.PrintWords Go.Proofs.YteoclecadpapfaaW.PrintMore
/-- The parts that laces make of bytes; and: does the last one go on? -/
def partsGo : List Int → List Int → Nat → Bool → List (List Int) × Bool
  | [], b, n, o => if o = true then ([b.take n], true) else ([], false)
  | x :: l, b, n, _ => if x = 255 then partsGo l b (n + x.toNat) true else (b.take (n + x.toNat) :: (partsGo l (b.drop (n + x.toNat)) 0 false).1, (partsGo l (b.drop (n + x.toNat)) 0 false).2)
def sumL : List Int → Nat
  | [] => 0
  | x :: l => x.toNat + sumL l
theorem sumL_append (a b : List Int) : sumL (a ++ b) = sumL a + sumL b := by
  induction a with
  | nil => simp [sumL]
  | cons x a ih => rw [List.cons_append, sumL, sumL, ih]; omega
theorem sumL_le (l : List Int) (h : okB l) : sumL l ≤ 255 * l.length := by
  induction l with
  | nil => simp [sumL]
  | cons x l ih =>
    have h1 := h x (by simp)
    have h2 := ih (fun y hy => h y (by simp [hy]))
    rw [sumL, List.length_cons]
    omega
theorem sumL_laceO (q : Nat) : sumL (List.replicate q 255) = 255 * q := by
  induction q with
  | zero => rfl
  | succ q ih => rw [List.replicate_succ, sumL, ih]; omega
theorem sumL_O (n : Nat) : sumL (laceO n) = 255 * (n / 255) := sumL_laceO _
theorem sumL_C (n : Nat) : sumL (laceC n) = n := by
  rw [laceC, sumL_append, sumL_O, sumL, sumL]
  omega
theorem partsGo_rep (q : Nat) (l b : List Int) (n : Nat) (o : Bool) : partsGo (List.replicate q 255 ++ l) b n o = partsGo l b (n + 255 * q) (if q = 0 then o else true) := by
  induction q generalizing n o with
  | zero => simp
  | succ q ih =>
    rw [List.replicate_succ, List.cons_append, partsGo, if_pos rfl, ih, show n + Int.toNat 255 + 255 * q = n + 255 * (q + 1) by have : Int.toNat 255 = 255 := rfl; omega]
    congr 1
    by_cases hq : q = 0
    · rw [if_pos hq, if_neg (by omega)]
    · rw [if_neg hq, if_neg (by omega)]
theorem partsGo_C (m : Nat) (l b : List Int) (o : Bool) : partsGo (laceC m ++ l) b 0 o = (b.take m :: (partsGo l (b.drop m) 0 false).1, (partsGo l (b.drop m) 0 false).2) := by
  rw [laceC, laceO, List.append_assoc, partsGo_rep]
  have e : (0 + 255 * (m / 255)) + Int.toNat ((m % 255 : Nat) : Int) = m := by rw [Int.toNat_natCast]; omega
  rw [List.singleton_append, partsGo, if_neg (by omega), e]
/-- How the last part of a page that goes on must be. -/
def endOk (more : Bool) : List (List Int) → Prop
  | [] => more = false
  | [b] => more = true → 0 < b.length ∧ b.length % 255 = 0
  | _ :: c :: r => endOk more (c :: r)
theorem endOk_of (more : Bool) (p : List (List Int)) (h : more = true → 0 < p.length ∧ 0 < (lastL p).length ∧ (lastL p).length % 255 = 0) : endOk more p := by
  induction p with
  | nil =>
    cases more with
    | false => rfl
    | true => exact absurd (h rfl).1 (by simp)
  | cons b r ih =>
    cases r with
    | nil =>
      intro hm
      have := (h hm).2
      unfold lastL rd_L3 at this
      exact this
    | cons c r =>
      refine ih (fun hm => ?_)
      have h1 := (h hm).2
      have e : lastL (b :: c :: r) = lastL (c :: r) := by
        unfold lastL rd_L3
        have e1 : (((b :: c :: r).length : Int) - 1).toNat = (((c :: r).length : Int) - 1).toNat + 1 := by simp only [List.length_cons]; omega
        rw [e1]
        rfl
      rw [e] at h1
      exact ⟨by simp, h1⟩
theorem sumL_laces (more : Bool) (p : List (List Int)) (h : endOk more p) : sumL (lacesL more p) = p.flatten.length := by
  induction p with
  | nil => rfl
  | cons b r ih =>
    rw [lacesL, sumL_append, List.flatten_cons, List.length_append]
    cases r with
    | nil =>
      by_cases hm : more = true
      · have := (show more = true → _ from h) hm
        rw [if_pos ⟨hm, rfl⟩, sumL_O, lacesL, sumL]
        simp
        omega
      · rw [if_neg (fun h => hm h.1), sumL_C, lacesL, sumL]
        simp
    | cons c r =>
      rw [if_neg (fun h => by simp at h), sumL_C, ih h]
theorem partsGo_laces (more : Bool) (p : List (List Int)) (h : endOk more p) (o : Bool) (ho : p = [] → o = false) : partsGo (lacesL more p) p.flatten 0 o = (p, more) := by
  induction p generalizing o with
  | nil =>
    have h' : more = false := h
    rw [lacesL, partsGo, ho rfl, h']
    rfl
  | cons b r ih =>
    cases r with
    | nil =>
      by_cases hm : more = true
      · obtain ⟨h1, h2⟩ := (show more = true → _ from h) hm
        have e : 0 + 255 * (b.length / 255) = b.length := by omega
        rw [lacesL, if_pos ⟨hm, rfl⟩, laceO, lacesL, partsGo_rep, e, if_neg (by omega), partsGo, if_pos rfl, hm]
        simp
      · have hm' : more = false := by cases more <;> simp_all
        rw [lacesL, if_neg (fun h => hm h.1), partsGo_C, lacesL, partsGo, if_neg (by simp), hm']
        simp
    | cons c r =>
      rw [lacesL, if_neg (fun h => by simp at h), partsGo_C, List.flatten_cons, List.take_left, List.drop_left, ih h false (fun _ => rfl)]
theorem okB_laces (more : Bool) (p : List (List Int)) : okB (lacesL more p) := by
  have hO : ∀ n, okB (laceO n) := fun n x hx => by
    rw [laceO] at hx
    rw [List.eq_of_mem_replicate hx]
    decide
  induction p with
  | nil => intro x hx; simp [lacesL] at hx
  | cons b r ih =>
    rw [lacesL]
    refine okB_append ?_ ih
    split
    · exact hO _
    · refine okB_append (hO _) (fun x hx => ?_)
      rw [List.mem_singleton] at hx
      omega
/-- The sum of a page's bytes: those of its own place are nothing. -/
def pageSum (t b : List Int) : Int := sumI t (b.take 17 ++ [0, 0, 0, 0] ++ b.drop 21)
def readZ (e : Int) : Int × Int × Bool × Bool × Bool × Bool × List (List Int) × Int × Int := (0, 0, false, false, false, false, [], 0, e)
def magic4 (l : List Int) : Bool := decide (IntKind.i32.wrap (rd l 0) = 80 ∧ IntKind.i32.wrap (rd l 1) = 83 ∧ IntKind.i32.wrap (rd l 2) = 76 ∧ IntKind.i32.wrap (rd l 3) = 84)
def manyP (b : List Int) : Nat := (rd b 21).toNat
def lacesP (b : List Int) : List Int := (b.take (22 + manyP b)).drop 22
def endP (b : List Int) : Nat := 22 + manyP b + sumL (lacesP b)
/-- Bytes as a page: its parts, how many bytes it has, and the error. -/
def readP (t b : List Int) : Int × Int × Bool × Bool × Bool × Bool × List (List Int) × Int × Int :=
  if b.length < 22 then readZ 4
  else if magic4 b = false ∨ rd b 4 ≥ 8 ∨ valI ((b.take 13).drop 5) > 4611686018427387904 then readZ 2
  else if b.length < 22 + manyP b then readZ 4
  else if b.length < endP b then readZ 4
  else if pageSum t (b.take (endP b)) ≠ valI ((b.take 21).drop 17) then readZ 6
  else (valI ((b.take 17).drop 13), valI ((b.take 13).drop 5), decide (rd b 4 / 2 % 2 = 1), decide (rd b 4 / 4 % 2 = 1), decide (rd b 4 % 2 = 1),
    (partsGo (lacesP b) ((b.take (endP b)).drop (22 + manyP b)) 0 false).2, (partsGo (lacesP b) ((b.take (endP b)).drop (22 + manyP b)) 0 false).1, (endP b : Int), 0)
end Go.Proofs.Yteoclecadpapfaa.G
namespace Go.Proofs.Yteoclecadpapfaa.G
set_option linter.unusedSimpArgs false
open Go.RowKit Go.Proofs.YteoclecadpapfaaW.PrintWords Go.Proofs.YteoclecadpapfaaW.PrintMore
theorem mid (a x z : List Int) (i j : Nat) (hi : a.length = i) (hj : i + x.length = j) : ((a ++ (x ++ z)).take j).drop i = x := by
  rw [← List.append_assoc, List.take_left' (by rw [List.length_append]; omega), List.drop_left' hi]
theorem rd_at (a z : List Int) (x : Int) (i : Nat) (hi : a.length = i) : rd (a ++ (x :: z)) (i : Int) = x := by
  unfold rd
  rw [Int.toNat_natCast, List.getD_eq_getElem?_getD, List.getElem?_append_right (by omega), hi, Nat.sub_self]
  try rfl
theorem pageSum_with' (t : List Int) (seq gran : Int) (first last cont more : Bool) (p : List (List Int)) (s : Int) : pageSum t (pageWith seq gran first last cont more p s) = pageSumOf t seq gran first last cont more p := by
  unfold pageSum pageSumOf pageWith
  have hl := pageHead_length seq gran first last cont
  have l4 : (lowI s 4).length = 4 := lowI_length _ _
  have e1 : (pageHead seq gran first last cont ++ lowI s 4 ++ pageTail more p).take 17 = pageHead seq gran first last cont := by
    rw [List.append_assoc]
    exact List.take_left' hl
  have e2 : (pageHead seq gran first last cont ++ lowI s 4 ++ pageTail more p).drop 21 = pageTail more p := List.drop_left' (by rw [List.length_append, hl, l4])
  rw [e1, e2]
  rfl
theorem flag_bits (first last cont : Bool) : 0 ≤ flagI first last cont ∧ flagI first last cont < 8 ∧ decide (flagI first last cont / 2 % 2 = 1) = first ∧ decide (flagI first last cont / 4 % 2 = 1) = last ∧ decide (flagI first last cont % 2 = 1) = cont := by
  cases first <;> cases last <;> cases cont <;> decide
/-- What reading bytes that begin with a page's answers, with any sum in its place. -/
theorem readP_with (t : List Int) (seq gran : Int) (first last cont more : Bool) (p : List (List Int)) (s : Int) (rest : List Int) (hs : 0 ≤ s ∧ s < 4294967296) (hr : pageRight seq gran more p = true) :
    readP t (pageWith seq gran first last cont more p s ++ rest) = if pageSumOf t seq gran first last cont more p ≠ s then readZ 6 else (seq, gran, first, last, cont, more, p, ((22 + (lacesL more p).length + p.flatten.length : Nat) : Int), 0) := by
  obtain ⟨h1, h2, h3, h4, h5, h6⟩ := (pageRight_iff ..).mp hr
  have hend := endOk_of more p h6
  have l8 : (lowI gran 8).length = 8 := lowI_length _ _
  have l4 : (lowI seq 4).length = 4 := lowI_length _ _
  have ls : (lowI s 4).length = 4 := lowI_length _ _
  have hsum := sumL_laces more p hend
  have hparts := partsGo_laces more p hend false (fun _ => rfl)
  have hlen := pageWith_length seq gran first last cont more p s
  have hps := pageSum_with' t seq gran first last cont more p s
  obtain ⟨f1, f2, f3, f4, f5⟩ := flag_bits first last cont
  obtain ⟨fl, hfl⟩ : ∃ fl, flagI first last cont = fl := ⟨_, rfl⟩
  rw [hfl] at f1 f2 f3 f4 f5
  obtain ⟨L, hL⟩ : ∃ L, lacesL more p = L := ⟨_, rfl⟩
  obtain ⟨F, hF⟩ : ∃ F, p.flatten = F := ⟨_, rfl⟩
  rw [hL] at hsum hlen h5 hparts
  rw [hF] at hsum hlen hparts
  obtain ⟨B, hB⟩ : ∃ B, pageWith seq gran first last cont more p s = B := ⟨_, rfl⟩
  have hB0 : B = [80, 83, 76, 84, fl] ++ (lowI gran 8 ++ (lowI seq 4 ++ (lowI s 4 ++ ((L.length : Int) :: (L ++ F))))) := by
    rw [← hB, pageWith, pageHead, pageTail, hfl, hL, hF]
    simp only [List.append_assoc, List.singleton_append, List.cons_append, List.nil_append]
  rw [hB] at hlen hps ⊢
  have hb : B ++ rest = [80, 83, 76, 84, fl] ++ (lowI gran 8 ++ (lowI seq 4 ++ (lowI s 4 ++ ((L.length : Int) :: (L ++ (F ++ rest)))))) := by
    rw [hB0]
    simp only [List.append_assoc, List.cons_append]
  have e4 : rd (B ++ rest) 4 = fl := by rw [hb]; rfl
  have em : magic4 (B ++ rest) = true := by
    unfold magic4
    rw [hb]
    have i0 : IntKind.i32.wrap 80 = 80 ∧ IntKind.i32.wrap 83 = 83 ∧ IntKind.i32.wrap 76 = 76 ∧ IntKind.i32.wrap 84 = 84 := by decide
    exact decide_eq_true ⟨i0.1, i0.2.1, i0.2.2.1, i0.2.2.2⟩
  have eg : ((B ++ rest).take 13).drop 5 = lowI gran 8 := by
    rw [hb]
    exact mid [80, 83, 76, 84, fl] (lowI gran 8) _ 5 13 rfl (by rw [l8])
  have es : ((B ++ rest).take 17).drop 13 = lowI seq 4 := by
    rw [hb, ← List.append_assoc]
    exact mid _ (lowI seq 4) _ 13 17 (by rw [List.length_append, l8]; rfl) (by rw [l4])
  have ec : ((B ++ rest).take 21).drop 17 = lowI s 4 := by
    rw [hb, ← List.append_assoc, ← List.append_assoc]
    exact mid _ (lowI s 4) _ 17 21 (by rw [List.length_append, List.length_append, l8, l4]; rfl) (by rw [ls])
  have hb21 : B ++ rest = ([80, 83, 76, 84, fl] ++ lowI gran 8 ++ lowI seq 4 ++ lowI s 4) ++ ((L.length : Int) :: (L ++ (F ++ rest))) := by
    rw [hb]
    simp only [List.append_assoc]
  have l21 : ([80, 83, 76, 84, fl] ++ lowI gran 8 ++ lowI seq 4 ++ lowI s 4).length = 21 := by rw [List.length_append, List.length_append, List.length_append, l8, l4, ls]; rfl
  have en : rd (B ++ rest) 21 = (L.length : Int) := by
    rw [hb21]
    exact rd_at _ _ _ 21 l21
  have emany : manyP (B ++ rest) = L.length := by unfold manyP; rw [en, Int.toNat_natCast]
  have hb22 : B ++ rest = ([80, 83, 76, 84, fl] ++ lowI gran 8 ++ lowI seq 4 ++ lowI s 4 ++ [(L.length : Int)]) ++ (L ++ (F ++ rest)) := by
    rw [hb21]
    simp only [List.append_assoc, List.singleton_append]
  have l22 : ([80, 83, 76, 84, fl] ++ lowI gran 8 ++ lowI seq 4 ++ lowI s 4 ++ [(L.length : Int)]).length = 22 := by rw [List.length_append, l21]; rfl
  have eL : lacesP (B ++ rest) = L := by
    unfold lacesP
    rw [emany, hb22]
    exact mid _ L _ 22 (22 + L.length) l22 rfl
  have eE : endP (B ++ rest) = B.length := by unfold endP; rw [emany, eL, hsum, hlen]
  have eT : (B ++ rest).take B.length = B := List.take_left
  have eF : B.drop (22 + L.length) = F := by
    have : B = ([80, 83, 76, 84, fl] ++ lowI gran 8 ++ lowI seq 4 ++ lowI s 4 ++ [(L.length : Int)] ++ L) ++ F := by
      rw [hB0]
      simp only [List.append_assoc, List.singleton_append, List.cons_append, List.nil_append]
    rw [this]
    exact List.drop_left' (by rw [List.length_append, l22])
  have p8 : (2 : Int) ^ (8 * 8) = 18446744073709551616 := by decide
  have p4 : (2 : Int) ^ (8 * 4) = 4294967296 := by decide
  have vg : valI (lowI gran 8) = gran := valI_low gran 8 h3 (by rw [p8]; omega)
  have v4 : ∀ v : Int, 0 ≤ v → v < 4294967296 → valI (lowI v 4) = v := fun v g1 g2 => valI_low v 4 g1 (by rw [p4]; omega)
  have hno : ¬ (true = false ∨ fl ≥ 8 ∨ gran > 4611686018427387904) := by
    rintro (h | h | h)
    · cases h
    · omega
    · omega
  have hlr : (B ++ rest).length = B.length + rest.length := List.length_append
  unfold readP
  rw [eE, em, e4, eg, es, ec, eL, emany, eT, eF, hparts, hps, vg, v4 s hs.1 hs.2, v4 seq h1 (by omega), f3, f4, f5, if_neg (show ¬ (B ++ rest).length < 22 by omega), if_neg hno, if_neg (show ¬ (B ++ rest).length < 22 + L.length by omega), if_neg (show ¬ (B ++ rest).length < B.length by omega), hlen, hL, hF]
theorem readP_page (t : List Int) (seq gran : Int) (first last cont more : Bool) (p : List (List Int)) (rest : List Int) (hr : pageRight seq gran more p = true) :
    readP t (pageBytes t seq gran first last cont more p ++ rest) = (seq, gran, first, last, cont, more, p, ((22 + (lacesL more p).length + p.flatten.length : Nat) : Int), 0) := by
  have hsr : 0 ≤ pageSumOf t seq gran first last cont more p ∧ pageSumOf t seq gran first last cont more p < 4294967296 := sumI_range _ _
  unfold pageBytes
  rw [readP_with t seq gran first last cont more p _ rest hsr hr, if_neg (fun h => h rfl)]
theorem okB_flatten (p : List (List Int)) (h : okP p) : okB p.flatten := fun x hx => by
  obtain ⟨b, hb, hx⟩ := List.mem_flatten.mp hx
  exact h b hb x hx
theorem okB_with (seq gran : Int) (first last cont more : Bool) (p : List (List Int)) (s : Int) (h : okP p) (hl : (lacesL more p).length ≤ 255) : okB (pageWith seq gran first last cont more p s) := by
  obtain ⟨f1, f2, _⟩ := flag_bits first last cont
  unfold pageWith pageHead pageTail
  refine okB_append (okB_append (okB_append (okB_append ?_ (lowI_ok _ _)) (lowI_ok _ _)) (lowI_ok _ _)) (okB_append (okB_append ?_ (okB_laces _ _)) (okB_flatten p h))
  · intro x hx
    simp only [List.mem_cons, List.not_mem_nil, or_false] at hx
    rcases hx with rfl | rfl | rfl | rfl | rfl <;> omega
  · intro x hx
    rw [List.mem_singleton] at hx
    omega
end Go.Proofs.Yteoclecadpapfaa.G
namespace Go.Proofs.Yteoclecadpapfaa.G
open Go.RowKit Go.Proofs.YteoclecadpapfaaW.PrintWords Go.Proofs.YteoclecadpapfaaW.PrintMore
/-- The first part of a page that goes on goes to the last packet; each other part is a packet. -/
def addParts (out : List (List Int)) (cont : Bool) : List (List Int) → List (List Int)
  | [] => out
  | b :: r => (if cont = true then out.set (out.length - 1) (rd_L3 out ((out.length : Int) - 1) ++ b) else out ++ [b]) ++ r
def badNext (prev : Option Int) (seq : Int) : Bool := match prev with
  | none => false
  | some s => seq != s + 1
def joinGo : List S43 → Option Int → Bool → List (List Int) → List (List Int) × Int
  | [], _, o, out => if o = true then ([], 7) else (out, 0)
  | p :: l, prev, o, out => if pageRight p.f0 p.f1 p.f5 p.f6 = false then ([], 1)
    else if (p.f4 != o) = true ∨ badNext prev p.f0 = true ∨ (p.f4 = true ∧ p.f6 = []) then ([], 7)
    else joinGo l (some p.f0) p.f5 (addParts out p.f4 p.f6)
theorem drop_T43 (l : List S43) (j : Nat) (h : j < l.length) : l.drop j = rd_T43 l (j : Int) :: l.drop (j + 1) := by
  rw [List.drop_eq_getElem_cons h]
  unfold rd_T43
  rw [Int.toNat_natCast, List.getD_eq_getElem?_getD, List.getElem?_eq_getElem h]
  rfl
theorem rd_T43_mem (l : List S43) (j : Nat) (h : j < l.length) : rd_T43 l (j : Int) ∈ l := by
  unfold rd_T43
  rw [Int.toNat_natCast, List.getD_eq_getElem?_getD, List.getElem?_eq_getElem h]
  exact List.getElem_mem h
theorem flatten_set (out : List (List Int)) (b : List Int) (h : out ≠ []) : (out.set (out.length - 1) (rd_L3 out ((out.length : Int) - 1) ++ b)).flatten = out.flatten ++ b := by
  obtain ⟨i, x, rfl⟩ : ∃ i x, out = i ++ [x] := ⟨_, _, (List.dropLast_concat_getLast h).symm⟩
  have e : (((i ++ [x]).length : Int) - 1) = (i.length : Int) := by rw [List.length_append, List.length_singleton]; omega
  have e1 : (i ++ [x]).length - 1 = i.length := by rw [List.length_append, List.length_singleton]; omega
  have e2 : rd_L3 (i ++ [x]) (i.length : Int) = x := by
    unfold rd_L3
    rw [Int.toNat_natCast, List.getD_eq_getElem?_getD, List.getElem?_append_right (Nat.le_refl _)]
    simp
  rw [e, e1, e2, List.set_append_right _ _ (Nat.le_refl _)]
  simp
theorem addParts_flatten (out : List (List Int)) (cont : Bool) (p : List (List Int)) (h : cont = true → out ≠ []) : (addParts out cont p).flatten = out.flatten ++ p.flatten := by
  cases p with
  | nil => simp [addParts]
  | cons b r =>
    rw [addParts, List.flatten_append, List.flatten_cons, ← List.append_assoc]
    congr 1
    cases cont with
    | true => rw [if_pos rfl, flatten_set out b (h rfl)]
    | false => rw [if_neg (by simp)]; simp
theorem addParts_length (out : List (List Int)) (cont : Bool) (p : List (List Int)) : (addParts out cont p).length = out.length + p.length - (if cont = true ∧ p ≠ [] then 1 else 0) := by
  cases p with
  | nil => simp [addParts]
  | cons b r =>
    cases cont with
    | true => simp [addParts]
    | false => (simp [addParts]) <;> omega
end Go.Proofs.Yteoclecadpapfaa.G
