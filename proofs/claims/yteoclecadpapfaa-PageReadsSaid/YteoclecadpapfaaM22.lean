/- Bytes that read as a page are that page's bytes, with the sum that stands in them. -/
import Derived.Test.YteoclecadpapfaaM21
namespace Go.Proofs.Yteoclecadpapfaa.G
open Go.RowKit Go.Proofs.YteoclecadpapfaaW.PrintWords Go.Proofs.YteoclecadpapfaaW.PrintMore
theorem tk (b : List Int) (i j : Nat) (h : i ≤ j) : b.take i ++ (b.take j).drop i = b.take j := by
  have e : (b.take j).take i = b.take i := by rw [List.take_take, Nat.min_eq_left h]
  rw [← e, List.take_append_drop]
theorem flag_of (x : Int) (h0 : 0 ≤ x) (h1 : x < 8) : flagI (decide (x / 2 % 2 = 1)) (decide (x / 4 % 2 = 1)) (decide (x % 2 = 1)) = x := by
  have : ∀ n : Fin 8, flagI (decide ((n.val : Int) / 2 % 2 = 1)) (decide ((n.val : Int) / 4 % 2 = 1)) (decide ((n.val : Int) % 2 = 1)) = (n.val : Int) := by decide
  obtain ⟨n, rfl⟩ := Int.eq_ofNat_of_zero_le h0
  exact this ⟨n, by omega⟩
def seqB (b : List Int) : Int := valI ((b.take 17).drop 13)
def granB (b : List Int) : Int := valI ((b.take 13).drop 5)
def sumB (b : List Int) : Int := valI ((b.take 21).drop 17)
def partsB (b : List Int) : List (List Int) × Bool := partsGo (lacesP b) (b.drop (22 + manyP b)) 0 false
def fiB (b : List Int) : Bool := decide (rd b 4 / 2 % 2 = 1)
def laB (b : List Int) : Bool := decide (rd b 4 / 4 % 2 = 1)
def coB (b : List Int) : Bool := decide (rd b 4 % 2 = 1)
structure GoodB (t b : List Int) : Prop where
  ht : t.length = 256
  hok : okB b
  hn : b.length ≤ 5000
  h22 : 22 ≤ b.length
  hm : magic4 b = true
  h8 : rd b 4 < 8
  hg : granB b ≤ 4611686018427387904
  hmany : 22 + manyP b ≤ b.length
  hend : endP b ≤ b.length
theorem rdB (b : List Int) (hok : okB b) (i : Nat) (h : i < b.length) : 0 ≤ rd b (i : Int) ∧ rd b (i : Int) < 256 := rd_mem hok (i : Int) (by omega)
theorem magic_of (b : List Int) (hok : okB b) (h : 4 ≤ b.length) : magic4 b = decide (rd b 0 = 80 ∧ rd b 1 = 83 ∧ rd b 2 = 76 ∧ rd b 3 = 84) := by
  have w : ∀ i : Nat, i < b.length → IntKind.i32.wrap (rd b (i : Int)) = rd b (i : Int) := fun i hi => by
    have := rdB b hok i hi
    rw [IntKind.wrap_i32]
    omega
  have w0 := w 0 (by omega)
  have w1 := w 1 (by omega)
  have w2 := w 2 (by omega)
  have w3 := w 3 (by omega)
  unfold magic4
  rw [show ((0 : Nat) : Int) = 0 from rfl] at w0
  rw [show ((1 : Nat) : Int) = 1 from rfl] at w1
  rw [show ((2 : Nat) : Int) = 2 from rfl] at w2
  rw [show ((3 : Nat) : Int) = 3 from rfl] at w3
  rw [w0, w1, w2, w3]
theorem manyB (b : List Int) (hok : okB b) (h : 22 ≤ b.length) : (manyP b : Int) = rd b 21 ∧ manyP b ≤ 255 := by
  have := rdB b hok 21 (by omega)
  rw [show ((21 : Nat) : Int) = 21 from rfl] at this
  unfold manyP
  omega
theorem lacesP_length (b : List Int) (h : 22 + manyP b ≤ b.length) : (lacesP b).length = manyP b := by
  rw [lacesP, List.length_drop, List.length_take]
  omega
theorem GoodB.parts {t b : List Int} (G : GoodB t b) : lacesL (partsB b).2 (partsB b).1 = lacesP b ∧ (partsB b).1.flatten = (b.take (endP b)).drop (22 + manyP b) ∧ smallP (partsB b).1 ∧ okP (partsB b).1 ∧ (partsB b).1.flatten.length ≤ 70000 := by
  have hlp := lacesP_length b G.hmany
  have hok : okB (lacesP b) := okB_drop (okB_take G.hok _) _
  have h255 := (manyB b G.hok G.h22).2
  have hE : endP b = 22 + manyP b + sumL (lacesP b) := rfl
  have hend := G.hend
  have hn := G.hn
  obtain ⟨i1, i2, i3, i4, _⟩ := partsGo_back (lacesP b) hok (b.drop (22 + manyP b)) 0 false (by rw [List.length_drop]; omega) ⟨(fun h => absurd h (by simp)), (fun h => absurd h (by omega))⟩
  rw [Nat.mul_zero] at i1 i2 i3 i4
  rw [List.replicate_zero, List.nil_append] at i1
  rw [Nat.zero_add] at i2
  have e2 : (partsB b).1.flatten = (b.take (endP b)).drop (22 + manyP b) := by
    show (partsGo (lacesP b) (b.drop (22 + manyP b)) 0 false).1.flatten = _
    rw [i2, List.drop_take, hE, Nat.add_sub_cancel_left]
  have hfl : okB (partsB b).1.flatten := by
    rw [e2]
    exact okB_drop (okB_take G.hok _) _
  refine ⟨i1, e2, ⟨?_, fun c hc => ?_⟩, fun c hc x hx => hfl x (List.mem_flatten.mpr ⟨c, hc, hx⟩), ?_⟩
  · have : (partsB b).1.length ≤ (lacesP b).length + 1 := i3
    omega
  · have : c.length ≤ 0 + 255 * (lacesP b).length := i4 c hc
    omega
  · rw [e2, List.length_drop, List.length_take]
    omega
theorem GoodB.bytes {t b : List Int} (G : GoodB t b) : b.take (endP b) = pageWith (seqB b) (granB b) (fiB b) (laB b) (coB b) (partsB b).2 (partsB b).1 (sumB b) := by
  obtain ⟨p1, p2, _, _, _⟩ := G.parts
  have h22 := G.h22
  have hE : 22 + manyP b ≤ endP b := by unfold endP; omega
  have hmg := G.hm
  rw [magic_of b G.hok (by omega)] at hmg
  obtain ⟨m0, m1, m2, m3⟩ := of_decide_eq_true hmg
  have hx4 := rdB b G.hok 4 (by omega)
  rw [show ((4 : Nat) : Int) = 4 from rfl] at hx4
  have hfl := flag_of (rd b 4) hx4.1 G.h8
  have hl8 : lowI (granB b) 8 = (b.take 13).drop 5 := by
    have := lowI_val ((b.take 13).drop 5) (okB_drop (okB_take G.hok _) _)
    rwa [List.length_drop, List.length_take, show min 13 b.length - 5 = 8 by omega] at this
  have hl4 : lowI (seqB b) 4 = (b.take 17).drop 13 := by
    have := lowI_val ((b.take 17).drop 13) (okB_drop (okB_take G.hok _) _)
    rwa [List.length_drop, List.length_take, show min 17 b.length - 13 = 4 by omega] at this
  have hls : lowI (sumB b) 4 = (b.take 21).drop 17 := by
    have := lowI_val ((b.take 21).drop 17) (okB_drop (okB_take G.hok _) _)
    rwa [List.length_drop, List.length_take, show min 21 b.length - 17 = 4 by omega] at this
  have h5 : b.take 5 = [80, 83, 76, 84, rd b 4] := by
    have t0 := take_succ_rd b 0 (by omega)
    have t1 := take_succ_rd b 1 (by omega)
    have t2 := take_succ_rd b 2 (by omega)
    have t3 := take_succ_rd b 3 (by omega)
    have t4 := take_succ_rd b 4 (by omega)
    rw [show ((0 : Nat) : Int) = 0 from rfl, m0] at t0
    rw [show ((1 : Nat) : Int) = 1 from rfl, m1, t0] at t1
    rw [show ((2 : Nat) : Int) = 2 from rfl, m2, t1] at t2
    rw [show ((3 : Nat) : Int) = 3 from rfl, m3, t2] at t3
    rw [show ((4 : Nat) : Int) = 4 from rfl, t3] at t4
    rw [t4, List.take_zero]
    rfl
  have h21 := take_succ_rd b 21 (by omega)
  rw [show ((21 : Nat) : Int) = 21 from rfl] at h21
  have hln : (((lacesL (partsB b).2 (partsB b).1).length : Nat) : Int) = rd b 21 := by rw [p1, lacesP_length b G.hmany]; exact (manyB b G.hok G.h22).1
  have e : pageWith (seqB b) (granB b) (fiB b) (laB b) (coB b) (partsB b).2 (partsB b).1 (sumB b) = b.take 5 ++ (b.take 13).drop 5 ++ (b.take 17).drop 13 ++ (b.take 21).drop 17 ++ [rd b 21] ++ (b.take (22 + manyP b)).drop 22 ++ (b.take (endP b)).drop (22 + manyP b) := by
    unfold pageWith pageHead pageTail fiB laB coB
    rw [hln, p1, p2, hfl, hl8, hl4, hls, h5]
    unfold lacesP
    simp only [List.append_assoc]
  rw [e, tk b 5 13 (by omega), tk b 13 17 (by omega), tk b 17 21 (by omega), ← h21, tk b 22 (22 + manyP b) (by omega), tk b (22 + manyP b) (endP b) hE]
theorem GoodB.ranges {t b : List Int} (G : GoodB t b) : (0 ≤ seqB b ∧ seqB b ≤ 4294967295) ∧ (0 ≤ granB b ∧ granB b ≤ 4611686018427387904) ∧ (0 ≤ sumB b ∧ sumB b < 4294967296) := by
  have h22 := G.h22
  have s1 := valI_nonneg (okB_drop (okB_take G.hok 17) 13)
  have s2 := valI_lt (okB_drop (okB_take G.hok 17) 13)
  have g1 := valI_nonneg (okB_drop (okB_take G.hok 13) 5)
  have c1 := valI_nonneg (okB_drop (okB_take G.hok 21) 17)
  have c2 := valI_lt (okB_drop (okB_take G.hok 21) 17)
  have p4 : (2 : Int) ^ (8 * 4) = 4294967296 := by decide
  rw [List.length_drop, List.length_take, show min 17 b.length - 13 = 4 by omega, p4] at s2
  rw [List.length_drop, List.length_take, show min 21 b.length - 17 = 4 by omega, p4] at c2
  have hg := G.hg
  unfold seqB granB sumB at *
  exact ⟨⟨s1, by omega⟩, ⟨g1, hg⟩, c1, c2⟩
theorem GoodB.writes {t b : List Int} (G : GoodB t b) : psalteryref18_Write.f t (seqB b) (granB b) (fiB b) (laB b) (coB b) (partsB b).2 (partsB b).1 = some (pageBytes t (seqB b) (granB b) (fiB b) (laB b) (coB b) (partsB b).2 (partsB b).1) := by
  obtain ⟨p1, p2, hs, hok, hf⟩ := G.parts
  obtain ⟨r1, r2, _⟩ := G.ranges
  have hL : (lacesL (partsB b).2 (partsB b).1).length ≤ 255 := by rw [p1, lacesP_length b G.hmany]; exact (manyB b G.hok G.h22).2
  have hsr : 0 ≤ pageSumOf t (seqB b) (granB b) (fiB b) (laB b) (coB b) (partsB b).2 (partsB b).1 ∧ pageSumOf t (seqB b) (granB b) (fiB b) (laB b) (coB b) (partsB b).2 (partsB b).1 < 4294967296 := sumI_range _ _
  have hB : ∀ s, 0 ≤ s ∧ s < 4294967296 → psalteryref18_bytes.f (seqB b) (granB b) (fiB b) (laB b) (coB b) (partsB b).2 (partsB b).1 s = some (pageWith (seqB b) (granB b) (fiB b) (laB b) (coB b) (partsB b).2 (partsB b).1 s) := fun s h => by
    unfold psalteryref18_bytes.f
    exact if_pos ⟨hs, by omega, hL, r1, r2, h⟩
  have hlen := pageWith_length (seqB b) (granB b) (fiB b) (laB b) (coB b) (partsB b).2 (partsB b).1 0
  have hA : psalteryref02_Add.f t 4294967295 (pageWith (seqB b) (granB b) (fiB b) (laB b) (coB b) (partsB b).2 (partsB b).1 0) = some (addI t 4294967295 (pageWith (seqB b) (granB b) (fiB b) (laB b) (coB b) (partsB b).2 (partsB b).1 0)) := by
    unfold psalteryref02_Add.f
    exact if_pos ⟨G.ht, okB_with _ _ _ _ _ _ _ 0 hok hL, ⟨by omega, by omega⟩, by omega⟩
  have hS : psalteryref18_sum.f t (pageWith (seqB b) (granB b) (fiB b) (laB b) (coB b) (partsB b).2 (partsB b).1 0) = some (pageSumOf t (seqB b) (granB b) (fiB b) (laB b) (coB b) (partsB b).2 (partsB b).1) := by
    have e : Go.bits .xor .u32 (addI t 4294967295 (pageWith (seqB b) (granB b) (fiB b) (laB b) (coB b) (partsB b).2 (partsB b).1 0)) 4294967295 = pageSumOf t (seqB b) (granB b) (fiB b) (laB b) (coB b) (partsB b).2 (partsB b).1 := bits_comm_xor _ _ _
    unfold psalteryref18_sum.f
    rw [hA, Option.bind_some, e, wrap64_of (by omega) (by omega)]
  unfold psalteryref18_Write.f
  rw [hB 0 ⟨by omega, by omega⟩, Option.bind_some, hS, Option.bind_some, hB _ hsr, Option.bind_some]
  rfl
/-- What the document asks at the end of reading is what the program asks. -/
theorem GoodB.final {t b : List Int} (G : GoodB t b) : (if (strOfNums (pageBytes t (seqB b) (granB b) (fiB b) (laB b) (coB b) (partsB b).2 (partsB b).1)).toList = (strOfNums (b.take (endP b))).toList then some (seqB b, granB b, fiB b, laB b, coB b, (partsB b).2, (partsB b).1, (endP b : Int), (0 : Int)) else some (readZ 6)) = some (readP t b) := by
  obtain ⟨p1, p2, hs, hok, hf⟩ := G.parts
  obtain ⟨_, _, r3⟩ := G.ranges
  have hL : (lacesL (partsB b).2 (partsB b).1).length ≤ 255 := by rw [p1, lacesP_length b G.hmany]; exact (manyB b G.hok G.h22).2
  have hb := G.bytes
  have hps : pageSum t (b.take (endP b)) = pageSumOf t (seqB b) (granB b) (fiB b) (laB b) (coB b) (partsB b).2 (partsB b).1 := by rw [hb, pageSum_with']
  have hsr : 0 ≤ pageSumOf t (seqB b) (granB b) (fiB b) (laB b) (coB b) (partsB b).2 (partsB b).1 ∧ pageSumOf t (seqB b) (granB b) (fiB b) (laB b) (coB b) (partsB b).2 (partsB b).1 < 4294967296 := sumI_range _ _
  have hE : endP b = 22 + manyP b + sumL (lacesP b) := rfl
  have hpt : partsGo (lacesP b) ((b.take (endP b)).drop (22 + manyP b)) 0 false = partsB b := by
    rw [List.drop_take, partsGo_take _ _ _ _ _ (by omega)]
    rfl
  have hread : readP t b = if pageSumOf t (seqB b) (granB b) (fiB b) (laB b) (coB b) (partsB b).2 (partsB b).1 ≠ sumB b then readZ 6 else (seqB b, granB b, fiB b, laB b, coB b, (partsB b).2, (partsB b).1, (endP b : Int), 0) := by
    have h22 := G.h22
    have h8 := G.h8
    have hg := G.hg
    unfold readP
    rw [hpt, hps, if_neg (by omega), if_neg (by
      rintro (h | h | h)
      · rw [G.hm] at h; cases h
      · omega
      · exact absurd h (by unfold granB at hg; omega)), if_neg (by have := G.hmany; omega), if_neg (by have := G.hend; omega)]
    rfl
  rw [hread]
  by_cases he : pageSumOf t (seqB b) (granB b) (fiB b) (laB b) (coB b) (partsB b).2 (partsB b).1 = sumB b
  · have hbb : pageBytes t (seqB b) (granB b) (fiB b) (laB b) (coB b) (partsB b).2 (partsB b).1 = b.take (endP b) := by
      unfold pageBytes
      rw [he]
      exact hb.symm
    rw [hbb, if_pos rfl, if_neg (fun h => h he)]
  · rw [if_neg, if_pos he]
    intro h
    apply he
    have hx := strOf_inj (okB_with _ _ _ _ _ _ _ _ hok hL) (okB_take G.hok _) h
    rw [hb] at hx
    have h1 := mid (pageHead (seqB b) (granB b) (fiB b) (laB b) (coB b)) (lowI (pageSumOf t (seqB b) (granB b) (fiB b) (laB b) (coB b) (partsB b).2 (partsB b).1) 4) (pageTail (partsB b).2 (partsB b).1) 17 21 (pageHead_length ..) (by rw [lowI_length])
    have h2 := mid (pageHead (seqB b) (granB b) (fiB b) (laB b) (coB b)) (lowI (sumB b) 4) (pageTail (partsB b).2 (partsB b).1) 17 21 (pageHead_length ..) (by rw [lowI_length])
    have p4 : (2 : Int) ^ (8 * 4) = 4294967296 := by decide
    rw [← List.append_assoc] at h1 h2
    have h3 : lowI (pageSumOf t (seqB b) (granB b) (fiB b) (laB b) (coB b) (partsB b).2 (partsB b).1) 4 = lowI (sumB b) 4 := by
      rw [← h1, ← h2]
      exact congrArg (fun z => (List.take 21 z).drop 17) hx
    have h4 := congrArg valI h3
    rw [valI_low _ 4 hsr.1 (by rw [p4]; exact hsr.2), valI_low _ 4 r3.1 (by rw [p4]; exact r3.2)] at h4
    exact h4
end Go.Proofs.Yteoclecadpapfaa.G
