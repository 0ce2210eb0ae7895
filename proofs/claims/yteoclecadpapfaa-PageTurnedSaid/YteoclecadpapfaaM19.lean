/- A page of which bits are turned in its parts: what reading it answers. -/
import Derived.Test.YteoclecadpapfaaM13
namespace Go.Proofs.Yteoclecadpapfaa.G
open Go.RowKit Go.Proofs.YteoclecadpapfaaW.PrintWords Go.Proofs.YteoclecadpapfaaW.PrintMore
/-- Other bytes, parted as these parts are. -/
def splitLike : List (List Int) → List Int → List (List Int)
  | [], _ => []
  | b :: r, x => x.take b.length :: splitLike r (x.drop b.length)
theorem splitLike_flatten (p : List (List Int)) (x : List Int) (h : x.length = p.flatten.length) : (splitLike p x).flatten = x := by
  induction p generalizing x with
  | nil =>
    rw [List.flatten_nil, List.length_nil] at h
    rw [List.eq_nil_of_length_eq_zero h]
    rfl
  | cons b r ih =>
    rw [List.flatten_cons, List.length_append] at h
    rw [splitLike, List.flatten_cons, ih (x.drop b.length) (by rw [List.length_drop]; omega), List.take_append_drop]
theorem splitLike_map (p : List (List Int)) (x : List Int) (h : x.length = p.flatten.length) : (splitLike p x).map List.length = p.map List.length := by
  induction p generalizing x with
  | nil => rfl
  | cons b r ih =>
    rw [List.flatten_cons, List.length_append] at h
    rw [splitLike, List.map_cons, List.map_cons, ih (x.drop b.length) (by rw [List.length_drop]; omega), List.length_take, Nat.min_eq_left (by omega)]
theorem laces_map (more : Bool) (p q : List (List Int)) (h : p.map List.length = q.map List.length) : lacesL more p = lacesL more q := by
  induction p generalizing q with
  | nil =>
    cases q with
    | nil => rfl
    | cons c r => simp at h
  | cons b r ih =>
    cases q with
    | nil => simp at h
    | cons c s =>
      simp only [List.map_cons, List.cons.injEq] at h
      have e : (r = []) = (s = []) := by
        have := congrArg List.length h.2
        rw [List.length_map, List.length_map] at this
        exact propext ⟨fun hr => List.eq_nil_of_length_eq_zero (by rw [← this, hr]; rfl), fun hs => List.eq_nil_of_length_eq_zero (by rw [this, hs]; rfl)⟩
      rw [lacesL, lacesL, h.1, ih s h.2]
      simp only [e]
theorem last_map (p q : List (List Int)) (h : p.map List.length = q.map List.length) : (lastL p).length = (lastL q).length := by
  have hl := congrArg List.length h
  rw [List.length_map, List.length_map] at hl
  have e : ∀ (z : List (List Int)) (i : Nat), (z.getD i []).length = (z.map List.length).getD i 0 := fun z i => by
    rw [List.getD_eq_getElem?_getD, List.getD_eq_getElem?_getD, List.getElem?_map]
    cases z[i]? <;> rfl
  unfold lastL rd_L3
  rw [e, e, h, hl]
theorem okP_of_flatten (p : List (List Int)) (h : okB p.flatten) : okP p := fun b hb x hx => h x (List.mem_flatten.mpr ⟨b, hb, hx⟩)
/-- What a page with other bytes in its parts is. -/
def pageFront (seq gran : Int) (first last cont more : Bool) (p : List (List Int)) (s : Int) : List Int := pageHead seq gran first last cont ++ lowI s 4 ++ ([(((lacesL more p).length : Nat) : Int)] ++ lacesL more p)
theorem pageFront_length (seq gran : Int) (first last cont more : Bool) (p : List (List Int)) (s : Int) : (pageFront seq gran first last cont more p s).length = 22 + (lacesL more p).length := by
  unfold pageFront
  rw [List.length_append, List.length_append, List.length_append, pageHead_length, lowI_length, List.length_singleton]
  omega
theorem pageFront_with (seq gran : Int) (first last cont more : Bool) (p : List (List Int)) (s : Int) : pageWith seq gran first last cont more p s = pageFront seq gran first last cont more p s ++ p.flatten := by
  unfold pageWith pageFront pageTail
  simp only [List.append_assoc]
theorem pageFront_other (seq gran : Int) (first last cont more : Bool) (p : List (List Int)) (s : Int) (x : List Int) (h : x.length = p.flatten.length) : pageFront seq gran first last cont more p s ++ x = pageWith seq gran first last cont more (splitLike p x) s := by
  rw [pageFront_with, splitLike_flatten p x h]
  congr 1
  unfold pageFront
  rw [laces_map more (splitLike p x) p (splitLike_map p x h)]
theorem right_other (seq gran : Int) (more : Bool) (p : List (List Int)) (x : List Int) (h : x.length = p.flatten.length) (hr : pageRight seq gran more p = true) : pageRight seq gran more (splitLike p x) = true := by
  have hm := splitLike_map p x h
  have hl := congrArg List.length hm
  rw [List.length_map, List.length_map] at hl
  obtain ⟨h1, h2, h3, h4, h5, h6⟩ := (pageRight_iff ..).mp hr
  exact (pageRight_iff ..).mpr ⟨h1, h2, h3, h4, by rw [laces_map more _ _ hm]; exact h5, fun hmo => by
    rw [hl, last_map _ _ hm]
    exact h6 hmo⟩
theorem sumI_same (t x y : List Int) : sumI t x = sumI t y ↔ addI t 4294967295 x = addI t 4294967295 y := by
  have hx := addI_range t x 4294967295 (by omega)
  have hy := addI_range t y 4294967295 (by omega)
  unfold sumI
  obtain ⟨a, ha⟩ := Int.eq_ofNat_of_zero_le hx.1
  obtain ⟨b, hb⟩ := Int.eq_ofNat_of_zero_le hy.1
  rw [ha] at hx
  rw [hb] at hy
  rw [ha, hb, show (4294967295 : Int) = ((4294967295 : Nat) : Int) from rfl, xor_u32 _ _ (by omega) (by omega), xor_u32 _ _ (by omega) (by omega)]
  constructor
  · intro h
    have h1 : 4294967295 ^^^ a = 4294967295 ^^^ b := by exact_mod_cast h
    have h2 := congrArg (fun z => 4294967295 ^^^ z) h1
    simp only [← Nat.xor_assoc, Nat.xor_self, Nat.zero_xor] at h2
    rw [h2]
  · intro h
    have h1 : a = b := by exact_mod_cast h
    rw [h1]
/-- By the table, turned bits behind some bytes are seen in the sum. -/
def TellsB (t pre x0 : List Int) (f : Nat) : Prop := ∀ (x8 : List Int) (i e : Nat) (any : Bool), i ≤ 32 → Turned x0 x8 f i e any → (sumI t (pre ++ x8) = sumI t (pre ++ x0) ↔ any = false)
theorem tabL_tellsB (pre x0 : List Int) (f : Nat) (h0 : okB x0) (hf : f ≤ 8 * x0.length) : TellsB tabL pre x0 f := by
  intro x8 i e any hi ht
  have hc := addI_range tabL pre 4294967295 (by omega)
  obtain ⟨c, hc'⟩ := Int.eq_ofNat_of_zero_le hc.1
  have hs := ht.sums h0 hf hi c (by omega)
  rw [sumI_same, addI_append, addI_append, hc']
  exact hs
theorem read_turned (t : List Int) (seq gran : Int) (first last cont more : Bool) (p : List (List Int)) (x : List Int) (h : x.length = p.flatten.length) (hr : pageRight seq gran more p = true)
    (hne : sumI t (pageFront seq gran first last cont more p 0 ++ x) ≠ sumI t (pageFront seq gran first last cont more p 0 ++ p.flatten)) :
    readP t (pageFront seq gran first last cont more p (pageSumOf t seq gran first last cont more p) ++ x) = readZ 6 := by
  have hsr : 0 ≤ pageSumOf t seq gran first last cont more p ∧ pageSumOf t seq gran first last cont more p < 4294967296 := sumI_range _ _
  have h1 := readP_with t seq gran first last cont more (splitLike p x) (pageSumOf t seq gran first last cont more p) [] hsr (right_other seq gran more p x h hr)
  rw [List.append_nil, ← pageFront_other seq gran first last cont more p _ x h] at h1
  rw [h1, if_pos]
  intro he
  apply hne
  rw [pageFront_other seq gran first last cont more p 0 x h, ← pageFront_with]
  exact he
end Go.Proofs.Yteoclecadpapfaa.G
