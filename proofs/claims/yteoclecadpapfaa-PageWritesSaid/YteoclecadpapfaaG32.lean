/- What a call of psaltery/psalterylaw18.great, psaltery/page.put, psaltery/page.get, psaltery/page.begins, psaltery/page.parts does, told by a plain Lean function of its arguments. Written by a program for this claim. -/
import Derived.Test.YteoclecadpapfaaG0
import Derived.Test.YteoclecadpapfaaM13
import Derived.Test.YteoclecadpapfaaM4
import Derived.Laws.RangeString
import Derived.Laws.RangeAny
import Derived.Test.YteoclecadpapfaaM10
import Derived.Test.YteoclecadpapfaaM24
namespace Go.Proofs.Yteoclecadpapfaa.G
open Go.RowKit Go.Proofs.YteoclecadpapfaaW.PrintWords Go.Proofs.YteoclecadpapfaaW.PrintLast Go.Proofs.YteoclecadpapfaaW.PrintMore
attribute [local go_sem] max2_int min2_int max_two min_two max_three min_three max_four min_four
set_option linter.unusedVariables false
set_option linter.unusedSimpArgs false

/-! ### psalterylaw18_great_raw: function 32 -/
def psalterylaw18_great_raw.l0 : Nat → Int → Int → Int → Int → Bool → Bool → Bool → Bool → List (List Int) → Option (Bool)
 | 0, _, _, _, _, _, _, _, _, _ => none
 | k + 1, x3, x4, x102000, x102001, x102002, x102003, x102004, x102005, x102006 => if x4 < (x102006.length : Int) then (if 0 ≤ x4 then (if ((rd_L3 x102006 x4).length : Int) > 70000 then (some true) else (if (wrap64 (x3 + ((rd_L3 x102006 x4).length : Int))) > 80000 then (some true) else (psalterylaw18_great_raw.l0 k (wrap64 (x3 + ((rd_L3 x102006 x4).length : Int))) (wrap64 (x4 + 1)) x102000 x102001 x102002 x102003 x102004 x102005 x102006))) else (none)) else (some false)
def psalterylaw18_great_raw.f (k : Nat) (a0_0 : Int) (a0_1 : Int) (a0_2 : Bool) (a0_3 : Bool) (a0_4 : Bool) (a0_5 : Bool) (l0_6 : List (List Int)) : Option (Bool) := if (l0_6.length : Int) > 300 then (some true) else (psalterylaw18_great_raw.l0 k 0 0 a0_0 a0_1 a0_2 a0_3 a0_4 a0_5 l0_6)
set_option maxHeartbeats 8000000 in
set_option maxRecDepth 100000 in
theorem psalterylaw18_great_raw.calls (k : Nat) (a0_0 : Int) (a0_1 : Int) (a0_2 : Bool) (a0_3 : Bool) (a0_4 : Bool) (a0_5 : Bool) (A0_6 : Option Addr) (c0_6 : Nat) (l0_6 : List (List Int)) (r : Bool) (w : World) (hr0_6 : Kd.C (Kd.slice 5 (Kd.int .u8)) w A0_6 l0_6.length l0_6) (hc0_6 : l0_6.length ≤ c0_6) (h : psalterylaw18_great_raw.f k a0_0 a0_1 a0_2 a0_3 a0_4 a0_5 l0_6 = some r) :
  Calls Try.prog 32 #[.agg #[.int .i64 a0_0, .int .i64 a0_1, .bool a0_2, .bool a0_3, .bool a0_4, .bool a0_5, .slice A0_6 l0_6.length c0_6]] w fun e w' => e = .returned (.bool r) ∧ Below w.heap.size w w' := by
 have hu43 := Try.underlying43
 have HR0_6 := Zma hr0_6
 have HC0_6 := Zma hc0_6
 clear hr0_6 hc0_6
 have HB := Zma (Below.refl w.heap.size w)
 have H : (if (l0_6.length : Int) > 300 then (some true) else (psalterylaw18_great_raw.l0 k 0 0 a0_0 a0_1 a0_2 a0_3 a0_4 a0_5 l0_6)) = some r := h
 clear h
 by_cases c2 : (l0_6.length : Int) > 300
 ·rw [if_pos c2] at H
  have c2b0 : decide (300 < (l0_6.length : Int)) = true := Zn c2
  have c2b1 : decide (300 < l0_6.length) = true := Zn (by omega)
  clear c2
  obtain rfl := Zgb H
  go_enter Try.func32, Try.ntmps32
  go_wp2_with (first | ((with_reducible refine gate_dst (N := 1) rfl ?_); refine box_event ?hg (N := 1) ?hd (cs := #[.int .i64 a0_0, .int .i64 a0_1, .bool a0_2, .bool a0_3, .bool a0_4, .bool a0_5, .slice A0_6 l0_6.length c0_6]) (t := 43) ?hr ?_; (case hd => rfl); (case hg => rfl); (case hr => first | (go_simp; done) | (go_simp; rfl)); intro gb101 hg w3 hbox hb; have n0_ := Zma (Zoa bq hb); have n1_ := Zma (hbox); have n2_ := Zma ((by rw [hg]; exact (Zfa bq) : w.heap.size ≤ gb101)); have n3_ := Zma ((by rw [hg]; exact (Zfa bq) : w.heap.size ≤ gb101)); clear HB; have HB := n0_; have BK101 := n1_; have GW101 := n2_; have GE101 := n3_; clear n0_ n1_ n2_ n3_ hb hbox hg; obtain ⟨hcz4_0, hcz4_1, hcz4_2, hcz4_3, hcz4_4, hcz4_5, hcz4_6, hfz4_0, hfz4_1, hfz4_2, hfz4_3, hfz4_4, hfz4_5, hfz4_6⟩ := blk7 BK101.out))
  go_ret
  exact ⟨by first | rfl | (simp [errW_none, errW_some] <;> rfl) | (simp [*, errW_none, errW_some] <;> rfl), bq⟩
 rw [if_neg c2] at H
 have c2b0 : decide (300 < (l0_6.length : Int)) = false := Zna c2
 have c2b1 : decide (300 < l0_6.length) = false := Zna (by omega)
 clear c2
 have H' := Zma H
 clear H
 go_enter Try.func32, Try.ntmps32
 go_wp2_with (first | ((with_reducible refine gate_dst (N := 1) rfl ?_); refine box_event ?hg (N := 1) ?hd (cs := #[.int .i64 a0_0, .int .i64 a0_1, .bool a0_2, .bool a0_3, .bool a0_4, .bool a0_5, .slice A0_6 l0_6.length c0_6]) (t := 43) ?hr ?_; (case hd => rfl); (case hg => rfl); (case hr => first | (go_simp; done) | (go_simp; rfl)); intro gb101 hg w5 hbox hb; have n0_ := Zma (Zoa bq hb); have n1_ := Zma (hbox); have n2_ := Zma ((by rw [hg]; exact (Zfa bq) : w.heap.size ≤ gb101)); have n3_ := Zma ((by rw [hg]; exact (Zfa bq) : w.heap.size ≤ gb101)); clear HB; have HB := n0_; have BK101 := n1_; have GW101 := n2_; have GE101 := n3_; clear n0_ n1_ n2_ n3_ hb hbox hg; obtain ⟨hcz6_0, hcz6_1, hcz6_2, hcz6_3, hcz6_4, hcz6_5, hcz6_6, hfz6_0, hfz6_1, hfz6_2, hfz6_3, hfz6_4, hfz6_5, hfz6_6⟩ := blk7 BK101.out))
 go_loopg [3, 4] k (fun kq v3 v4 w' => ∃ (x3_1 : Int) (x4_1 : Int), v3 = .int .i64 x3_1 ∧ v4 = .int .i64 x4_1 ∧ Aside0 (psalterylaw18_great_raw.l0 kq x3_1 x4_1 a0_0 a0_1 a0_2 a0_3 a0_4 a0_5 l0_6 = some r) ∧ Aside0 (kq ≤ k) ∧ Aside0 (w'.heap[gb101]? = some (.cells #[.int .i64 a0_0, .int .i64 a0_1, .bool a0_2, .bool a0_3, .bool a0_4, .bool a0_5, (.slice A0_6 l0_6.length c0_6)] 43 (0, 0))) ∧ Aside0 (Below w.heap.size w w'))
 case atStart => exact ⟨(0), (0), (by first | rfl | (simp; done) | (simp [*]; done)), (by first | rfl | (simp; done) | (simp [*]; done)), H', ⟨Zra _⟩, ⟨kq BK101.out⟩, ⟨bq⟩⟩
 case round =>
  clear H'
  try clear c2
  try clear c2b0
  try clear c2b1
  try clear p2
  try clear c3
  try clear hcz4_0
  try clear hcz4_1
  try clear hcz4_2
  try clear hcz4_3
  try clear hcz4_4
  try clear hcz4_5
  try clear hcz4_6
  try clear hcz6_0
  try clear hcz6_1
  try clear hcz6_2
  try clear hcz6_3
  try clear hcz6_4
  try clear hcz6_5
  try clear hcz6_6
  try clear hfz4_0
  try clear hfz4_1
  try clear hfz4_2
  try clear hfz4_3
  try clear hfz4_4
  try clear hfz4_5
  try clear hfz4_6
  try clear hfz6_0
  try clear hfz6_1
  try clear hfz6_2
  try clear hfz6_3
  try clear hfz6_4
  try clear hfz6_5
  try clear hfz6_6
  obtain ⟨x3_1, x4_1, rfl, rfl, HA, HK1, BK101, HB⟩ := hrel
  cases gk with
  | zero => exact absurd HA.out (by simp [psalterylaw18_great_raw.l0])
  | succ k1 =>
   have H := HA.out
   clear HA
   simp only [psalterylaw18_great_raw.l0] at H
   by_cases c7 : x4_1 < (l0_6.length : Int)
   ·rw [if_pos c7] at H
    have c7b0 : decide (x4_1 < (l0_6.length : Int)) = true := Zn c7
    clear c7
    by_cases c8 : 0 ≤ x4_1
    rotate_left
    ·rw [if_neg c8] at H
     exact absurd H (by simp)
    rw [if_pos c8] at H
    have c8b0 : decide (0 ≤ x4_1) = true := Zn c8
    clear c8
    by_cases c9 : ((rd_L3 l0_6 x4_1).length : Int) > 70000
    ·rw [if_pos c9] at H
     have c9b0 : decide (70000 < ((rd_L3 l0_6 x4_1).length : Int)) = true := Zn c9
     have c9b1 : decide (70000 < (rd_L3 l0_6 x4_1).length) = true := Zn (by omega)
     clear c9
     obtain rfl := Zgb H
     obtain ⟨hcz10_0, hcz10_1, hcz10_2, hcz10_3, hcz10_4, hcz10_5, hcz10_6, hfz10_0, hfz10_1, hfz10_2, hfz10_3, hfz10_4, hfz10_5, hfz10_6⟩ := blk7 BK101.out
     have p102 : 0 ≤ (x4_1 : Int) := Zg (by first | (with_reducible assumption) | assumption)
     have q102 : x4_1 < (l0_6.length : Int) := Zg (by first | (with_reducible assumption) | assumption)
     obtain ⟨ad102, A102_0, c102_0, e102, hx102_0, hl102_0, hi102_0⟩ := at_L3 HR0_6.out x4_1 p102 q102
     cases e102
     replace hx102_0 := (HB.out.cell (Zh w _ hx102_0)).trans hx102_0
     have HR102_0 := Zma hi102_0
     have HC102_0 := Zma hl102_0
     clear hi102_0 hl102_0
     replace p102 := Zja p102
     replace q102 := Zja q102
     go_wp2
     go_ret
     exact ⟨by first | rfl | (simp [errW_none, errW_some] <;> rfl) | (simp [*, errW_none, errW_some] <;> rfl), bq⟩
    rw [if_neg c9] at H
    have c9b0 : decide (70000 < ((rd_L3 l0_6 x4_1).length : Int)) = false := Zna c9
    have c9b1 : decide (70000 < (rd_L3 l0_6 x4_1).length) = false := Zna (by omega)
    clear c9
    by_cases c11 : (wrap64 (x3_1 + ((rd_L3 l0_6 x4_1).length : Int))) > 80000
    ·rw [if_pos c11] at H
     have c11b0 : decide (80000 < (wrap64 (x3_1 + ((rd_L3 l0_6 x4_1).length : Int)))) = true := Zn c11
     clear c11
     obtain rfl := Zgb H
     obtain ⟨hcz12_0, hcz12_1, hcz12_2, hcz12_3, hcz12_4, hcz12_5, hcz12_6, hfz12_0, hfz12_1, hfz12_2, hfz12_3, hfz12_4, hfz12_5, hfz12_6⟩ := blk7 BK101.out
     have p102 : 0 ≤ (x4_1 : Int) := Zg (by first | (with_reducible assumption) | assumption)
     have q102 : x4_1 < (l0_6.length : Int) := Zg (by first | (with_reducible assumption) | assumption)
     obtain ⟨ad102, A102_0, c102_0, e102, hx102_0, hl102_0, hi102_0⟩ := at_L3 HR0_6.out x4_1 p102 q102
     cases e102
     replace hx102_0 := (HB.out.cell (Zh w _ hx102_0)).trans hx102_0
     have HR102_0 := Zma hi102_0
     have HC102_0 := Zma hl102_0
     clear hi102_0 hl102_0
     replace p102 := Zja p102
     replace q102 := Zja q102
     have p103 : 0 ≤ (x4_1 : Int) := Zg (by first | (with_reducible assumption) | assumption)
     have q103 : x4_1 < (l0_6.length : Int) := Zg (by first | (with_reducible assumption) | assumption)
     obtain ⟨ad103, A103_0, c103_0, e103, hx103_0, hl103_0, hi103_0⟩ := at_L3 HR0_6.out x4_1 p103 q103
     obtain rfl : ad102 = ad103 := (by injection e103)
     replace hx103_0 := (HB.out.cell (Zh w _ hx103_0)).trans hx103_0
     have HR103_0 := Zma hi103_0
     have HC103_0 := Zma hl103_0
     clear hi103_0 hl103_0
     replace p103 := Zja p103
     replace q103 := Zja q103
     have ea_ := Zgb (hx102_0.symm.trans hx103_0)
     injection ea_ with ea_ en_ ec_
     subst ea_
     subst ec_
     clear en_
     go_wp2
     go_ret
     exact ⟨by first | rfl | (simp [errW_none, errW_some] <;> rfl) | (simp [*, errW_none, errW_some] <;> rfl), bq⟩
    rw [if_neg c11] at H
    have c11b0 : decide (80000 < (wrap64 (x3_1 + ((rd_L3 l0_6 x4_1).length : Int)))) = false := Zna c11
    clear c11
    have H' := Zma H
    clear H
    obtain ⟨hcz13_0, hcz13_1, hcz13_2, hcz13_3, hcz13_4, hcz13_5, hcz13_6, hfz13_0, hfz13_1, hfz13_2, hfz13_3, hfz13_4, hfz13_5, hfz13_6⟩ := blk7 BK101.out
    have p102 : 0 ≤ (x4_1 : Int) := Zg (by first | (with_reducible assumption) | assumption)
    have q102 : x4_1 < (l0_6.length : Int) := Zg (by first | (with_reducible assumption) | assumption)
    obtain ⟨ad102, A102_0, c102_0, e102, hx102_0, hl102_0, hi102_0⟩ := at_L3 HR0_6.out x4_1 p102 q102
    cases e102
    replace hx102_0 := (HB.out.cell (Zh w _ hx102_0)).trans hx102_0
    have HR102_0 := Zma hi102_0
    have HC102_0 := Zma hl102_0
    clear hi102_0 hl102_0
    replace p102 := Zja p102
    replace q102 := Zja q102
    have p103 : 0 ≤ (x4_1 : Int) := Zg (by first | (with_reducible assumption) | assumption)
    have q103 : x4_1 < (l0_6.length : Int) := Zg (by first | (with_reducible assumption) | assumption)
    obtain ⟨ad103, A103_0, c103_0, e103, hx103_0, hl103_0, hi103_0⟩ := at_L3 HR0_6.out x4_1 p103 q103
    obtain rfl : ad102 = ad103 := (by injection e103)
    replace hx103_0 := (HB.out.cell (Zh w _ hx103_0)).trans hx103_0
    have HR103_0 := Zma hi103_0
    have HC103_0 := Zma hl103_0
    clear hi103_0 hl103_0
    replace p103 := Zja p103
    replace q103 := Zja q103
    have ea_ := Zgb (hx102_0.symm.trans hx103_0)
    injection ea_ with ea_ en_ ec_
    subst ea_
    subst ec_
    clear en_
    go_wp2
    go_roundg k1
    case measure => have := HK1.out; omega
    case rel => exact ⟨(wrap64 (x3_1 + ((rd_L3 l0_6 x4_1).length : Int))), (wrap64 (x4_1 + 1)), (by first | rfl | (simp; done) | (simp [*]; done)), (by first | rfl | (simp; done) | (simp [*]; done)), H', ⟨by have := HK1.out; omega⟩, ⟨kq BK101.out⟩, ⟨bq⟩⟩
   rw [if_neg c7] at H
   have c7b0 : decide (x4_1 < (l0_6.length : Int)) = false := Zna c7
   clear c7
   obtain rfl := Zgb H
   obtain ⟨hcz14_0, hcz14_1, hcz14_2, hcz14_3, hcz14_4, hcz14_5, hcz14_6, hfz14_0, hfz14_1, hfz14_2, hfz14_3, hfz14_4, hfz14_5, hfz14_6⟩ := blk7 BK101.out
   go_wp2
   go_ret
   exact ⟨by first | rfl | (simp [errW_none, errW_some] <;> rfl) | (simp [*, errW_none, errW_some] <;> rfl), bq⟩

/-- More than is looked at? -/
def greatB (p : List (List Int)) : Bool := decide (300 < p.length ∨ (∃ b ∈ p, 70000 < b.length) ∨ 80000 < p.flatten.length)
theorem greatB_small (p : List (List Int)) (h : greatB p = false) : smallP p ∧ p.flatten.length ≤ 80000 := by
  have h' := of_decide_eq_false h
  have h1 : ¬ 300 < p.length := fun x => h' (.inl x)
  have h3 : ¬ 80000 < p.flatten.length := fun x => h' (.inr (.inr x))
  refine ⟨⟨by omega, fun b hb => ?_⟩, by omega⟩
  rcases Nat.lt_or_ge 70000 b.length with h2 | h2
  · exact absurd (.inr (.inl ⟨b, hb, h2⟩)) h'
  · exact h2
def psalterylaw18_great.f (_seq _gran : Int) (_first _last _cont _more : Bool) (p : List (List Int)) : Option Bool := some (greatB p)
theorem psalterylaw18_great.of {seq gran : Int} {first last cont more : Bool} {p : List (List Int)} {r : Bool} (h : psalterylaw18_great.f seq gran first last cont more p = some r) : ∃ k, psalterylaw18_great_raw.f k seq gran first last cont more p = some r := by
  unfold psalterylaw18_great.f at h
  injection h with h
  subst h
  refine Ev.rounds ?_
  unfold psalterylaw18_great_raw.f
  by_cases h3 : 300 < p.length
  · simp only [if_pos (show (p.length : Int) > 300 by omega)]
    have e : greatB p = true := Zn (.inl h3)
    rw [e]
    exact Ev.now _
  · simp only [if_neg (show ¬ (p.length : Int) > 300 by omega)]
    have go : ∀ (d j n : Nat), j ≤ p.length → p.length - j = d → n ≤ 80000 → n + (p.drop j).flatten.length = p.flatten.length → (greatB p = decide ((∃ b ∈ p.drop j, 70000 < b.length) ∨ 80000 < p.flatten.length)) → Ev (fun k => psalterylaw18_great_raw.l0 k (n : Int) (j : Int) seq gran first last cont more p) (greatB p) := by
      intro d
      induction d with
      | zero =>
        intro j n hj hd hn hx hg
        obtain rfl : j = p.length := by omega
        rw [List.drop_length] at hx hg
        have e : greatB p = false := by
          rw [hg]
          refine Zna ?_
          rintro (⟨b, hb, _⟩ | h)
          · cases hb
          · rw [List.flatten_nil, List.length_nil] at hx
            omega
        rw [e]
        refine Ev.step (f := fun _ => some false) (fun k => ?_) (Ev.now _)
        simp only [psalterylaw18_great_raw.l0]
        rw [if_neg (Int.lt_irrefl _)]
      | succ d ih =>
        intro j n hj hd hn hx hg
        have hj1 : j < p.length := by omega
        have g1 : (j : Int) < (p.length : Int) := by omega
        have g2 : (0 : Int) ≤ (j : Int) := by omega
        rw [drop_cons p j hj1, List.flatten_cons, List.length_append] at hx
        rw [drop_cons p j hj1] at hg
        by_cases h7 : 70000 < (rd_L3 p (j : Int)).length
        · have g3 : ((rd_L3 p (j : Int)).length : Int) > 70000 := by omega
          have e : greatB p = true := by
            rw [hg]
            exact Zn (.inl ⟨_, List.mem_cons_self, h7⟩)
          rw [e]
          refine Ev.step (f := fun _ => some true) (fun k => ?_) (Ev.now _)
          simp only [psalterylaw18_great_raw.l0]
          rw [if_pos g1, if_pos g2, if_pos g3]
        · have g3 : ¬ ((rd_L3 p (j : Int)).length : Int) > 70000 := by omega
          have hn2 : n + (rd_L3 p (j : Int)).length ≤ 1000000 := by omega
          by_cases h8 : n + (rd_L3 p (j : Int)).length > 80000
          · have g4 : ((n + (rd_L3 p (j : Int)).length : Nat) : Int) > 80000 := by omega
            have e : greatB p = true := by
              rw [hg]
              exact Zn (.inr (by omega))
            rw [e]
            refine Ev.step (f := fun _ => some true) (fun k => ?_) (Ev.now _)
            simp only [psalterylaw18_great_raw.l0]
            rw [if_pos g1, if_pos g2, if_neg g3, wadd n _ (by omega), if_pos g4]
          · have g4 : ¬ ((n + (rd_L3 p (j : Int)).length : Nat) : Int) > 80000 := by omega
            have H := ih (j + 1) (n + (rd_L3 p (j : Int)).length) (by omega) (by omega) (by omega) (by omega) (by
              rw [hg, decide_eq_decide]
              constructor
              · rintro (⟨b, hb, h⟩ | h)
                · rcases List.mem_cons.mp hb with rfl | hb
                  · exact absurd h h7
                  · exact .inl ⟨b, hb, h⟩
                · exact .inr h
              · rintro (⟨b, hb, h⟩ | h)
                · exact .inl ⟨b, List.mem_cons_of_mem _ hb, h⟩
                · exact .inr h)
            refine Ev.step (fun k => ?_) H
            simp only [psalterylaw18_great_raw.l0]
            rw [if_pos g1, if_pos g2, if_neg g3, wadd n _ (by omega), if_neg g4, wsucc j (by omega)]
    exact go p.length 0 0 (by omega) (by omega) (by omega) (by rw [List.drop_zero]; omega) (by
      unfold greatB
      rw [List.drop_zero, decide_eq_decide]
      exact ⟨fun h => h.elim (fun h => absurd h h3) id, .inr⟩)
theorem psalterylaw18_great.calls (a0_0 : Int) (a0_1 : Int) (a0_2 : Bool) (a0_3 : Bool) (a0_4 : Bool) (a0_5 : Bool) (A0_6 : Option Addr) (c0_6 : Nat) (l0_6 : List (List Int)) (r : Bool) (w : World) (hr0_6 : Kd.C (Kd.slice 5 (Kd.int .u8)) w A0_6 l0_6.length l0_6) (hc0_6 : l0_6.length ≤ c0_6) (h : psalterylaw18_great.f a0_0 a0_1 a0_2 a0_3 a0_4 a0_5 l0_6 = some r) :
  Calls Try.prog 32 #[.agg #[.int .i64 a0_0, .int .i64 a0_1, .bool a0_2, .bool a0_3, .bool a0_4, .bool a0_5, .slice A0_6 l0_6.length c0_6]] w fun e w' => e = .returned (.bool r) ∧ Below w.heap.size w w' := by
  obtain ⟨k, hk⟩ := psalterylaw18_great.of h
  exact psalterylaw18_great_raw.calls k a0_0 a0_1 a0_2 a0_3 a0_4 a0_5 A0_6 c0_6 l0_6 r w hr0_6 hc0_6 hk

/-! ### page_put_raw: function 62 -/
def page_put_raw.l0 : Nat → List Int → Int → Int → Int → Option (List Int)
 | 0, _, _, _, _ => none
 | k + 1, x0, x1, x7, x8 => if x8 < x7 then (if x0.length < 140737488355328 then (page_put_raw.l0 k (x0 ++ [(x1) % 256]) (x1 / 256) x7 (wrap64 (x8 + 1))) else (none)) else (some x0)
def page_put_raw.f (k : Nat) (l0 : List Int) (a1 : Int) (a2 : Int) : Option (List Int) := page_put_raw.l0 k l0 a1 a2 0
set_option maxHeartbeats 8000000 in
set_option maxRecDepth 100000 in
theorem page_put_raw.calls (k : Nat) (P0_ : Nat → Prop) (u9000_ : Value) (l0 : List Int) (a1 : Int) (a2 : Int) (r : List Int) (w0 w : World) (hB : Below w0.heap.size w0 w) (ho0 : Kd.R (Kd.int .u8) 5 w w0.heap.size P0_ u9000_ l0) (h : page_put_raw.f k l0 a1 a2 = some r) :
  Calls Try.prog 62 #[u9000_, .int .i64 a1, .int .i64 a2] w fun e w' => ∃ v0_ : Value, e = .returned (v0_) ∧ Kd.R (Kd.int .u8) 5 w' w0.heap.size (fun k_ => (P0_ k_ ∨ w.heap.size ≤ k_)) v0_ r ∧ Below w0.heap.size w0 w' ∧ Kept w w' (fun k_ => P0_ k_) := by
 have HO0 := Zma (show Kd.R (Kd.int .u8) 5 w w0.heap.size (fun k_ => (P0_ k_ ∨ w.heap.size ≤ k_)) u9000_ l0 from Kd.R_mono ho0 (fun k_ hk => (.inl hk)))
 have HK := Zma (Kept.refl w (fun k_ => P0_ k_))
 have HW0 := Zma hB.size
 have HB := Zma hB
 clear hB
 have H : (page_put_raw.l0 k l0 a1 a2 0) = some r := h
 clear h
 have H' := Zma H
 clear H
 go_enter Try.func62, Try.ntmps62
 go_wp2
 go_loopg [0, 1, 8] k (fun kq v0 v1 v8 w' => ∃ (x0_1 : List Int) (x1_1 : Int) (x8_1 : Int), v1 = .int .i64 x1_1 ∧ v8 = .int .i64 x8_1 ∧ Aside0 (page_put_raw.l0 kq x0_1 x1_1 a2 x8_1 = some r) ∧ Aside0 (kq ≤ k) ∧ Aside0 (Kd.R (Kd.int .u8) 5 w' w0.heap.size (fun k_ => (P0_ k_ ∨ w.heap.size ≤ k_)) v0 x0_1) ∧ Aside0 (Kept w w' (fun k_ => P0_ k_)) ∧ Aside0 (Below w0.heap.size w0 w'))
 case atStart => exact ⟨(l0), (a1), (0), (by first | rfl | (simp; done) | (simp [*]; done)), (by first | rfl | (simp; done) | (simp [*]; done)), H', ⟨Zra _⟩, ⟨rq HO0.out⟩, ⟨by repeat (first | (with_reducible first | exact HK.out | apply Kept.alloc | apply Kept.drewN | apply Kept.drew) | exact HK.out)⟩, ⟨bq⟩⟩
 case round =>
  clear H'
  try clear p2
  obtain ⟨x0_1, x1_1, x8_1, rfl, rfl, HA, HK1, HO_0, HK, HB⟩ := hrel
  cases gk with
  | zero => exact absurd HA.out (by simp [page_put_raw.l0])
  | succ k1 =>
   have H := HA.out
   clear HA
   simp only [page_put_raw.l0] at H
   by_cases c4 : x8_1 < a2
   ·rw [if_pos c4] at H
    have c4b0 : decide (x8_1 < a2) = true := Zn c4
    clear c4
    by_cases c5 : x0_1.length < 140737488355328
    rotate_left
    ·rw [if_neg c5] at H
     exact absurd H (by simp)
    rw [if_pos c5] at H
    have LMc5 := Zma c5
    clear c5
    obtain ⟨y101, hy101⟩ : ∃ y_ : List Int, y_ = (x0_1 ++ [(x1_1) % 256]) := ⟨_, rfl⟩
    replace H : (page_put_raw.l0 k1 y101 (x1_1 / 256) a2 (wrap64 (x8_1 + 1))) = some r := by first | (rw [hy101]; with_reducible exact H) | (have H2_ := (Zsa _ _).symm.trans H; rw [hy101]; with_reducible exact H2_) | (have H2_ := (Zsa _ _).symm.trans H; with_reducible exact H2_) | with_reducible exact H | (rw [hy101]; exact H) | exact H
    have Ny101 := Zma hy101
    clear hy101
    have H' := Zma H
    clear H
    go_wp2_with (first | ((with_reducible refine gate_builtin (b := .append) (xs := #[.tmp 10, .tmp 13]) rfl ?_); at_builtin; refine Kd.R_append (Kd.int .u8) (w0 := w0) w0.heap.size rfl (.tmp 10) (.tmp 13) 28 5 (.int .u8 0) 1 rfl Try.underlying28 info5 rfl (by decide) (by omega) u0 x0_1 ((x1_1) % 256) [.int .u8 ((x1_1) % 256)] (fun k_ => (P0_ k_ ∨ w.heap.size ≤ k_)) (fun _ => False) rfl rfl ?aP (fun _ hk => hk.elim) ?aF ?aO ?aB ?aS ?aL ?_; (case aP => exact rfl); (case aB => exact bq); (case aF => exact (fun k_ hk => (.inr (Nat.le_trans (by first | exact HK.out.1 | exact (show Kept w _ (fun k_ => P0_ k_) from by repeat (first | (with_reducible first | exact HK.out | apply Kept.alloc | apply Kept.drewN | apply Kept.drew) | exact HK.out)).1) hk)))); (case aO => exact (rq HO_0.out)); (case aS => exact (Zfa bq)); (case aL => have := LMc5.out; omega); intro v102 w6 ho hb hg hat; rw [← Ny101.out] at ho; have n0_ := Zma (hb); have n1_ := Zma (Kept.of_grown (S := (fun k_ => P0_ k_)) hg (by repeat (first | (with_reducible first | exact HK.out | apply Kept.alloc | apply Kept.drewN | apply Kept.drew) | exact HK.out)) (fun k_ e_ => (HO_0.out.1 k_ e_))); have n2_ := Zma (ho); clear HB HK HO_0; have HB := n0_; have HK := n1_; have HO103 := n2_; clear n0_ n1_ n2_ ho hb hg hat))
    go_roundg k1
    case measure => have := HK1.out; omega
    case rel => exact ⟨(y101), (x1_1 / 256), (wrap64 (x8_1 + 1)), (by first | rfl | (simp; done) | (simp [*]; done)), (by first | rfl | (simp; done) | (simp [*]; done)), H', ⟨by have := HK1.out; omega⟩, ⟨rq HO103.out⟩, ⟨by repeat (first | (with_reducible first | exact HK.out | apply Kept.alloc | apply Kept.drewN | apply Kept.drew) | exact HK.out)⟩, ⟨bq⟩⟩
   rw [if_neg c4] at H
   have c4b0 : decide (x8_1 < a2) = false := Zna c4
   clear c4
   obtain rfl := Zgb H
   go_wp2
   go_ret
   exact ⟨_, by first | rfl | (simp [errW_none, errW_some] <;> rfl) | (simp [*, errW_none, errW_some] <;> rfl), rq HO_0.out, bq, by repeat (first | (with_reducible first | exact HK.out | apply Kept.alloc | apply Kept.drewN | apply Kept.drew) | exact HK.out)⟩

def page_put.f (l : List Int) (v n : Int) : Option (List Int) := if 0 ≤ n ∧ n ≤ 8 ∧ l.length ≤ 1000000 then some (l ++ lowI v n.toNat) else none
theorem page_put.of {l : List Int} {v n : Int} {r : List Int} (h : page_put.f l v n = some r) : ∃ k, page_put_raw.f k l v n = some r := by
  unfold page_put.f at h
  split at h
  case isFalse => cases h
  case isTrue hs =>
    injection h with h
    subst h
    obtain ⟨h0, h8, hl⟩ := hs
    obtain ⟨m, rfl⟩ := Int.eq_ofNat_of_zero_le h0
    rw [Int.toNat_natCast]
    refine Ev.rounds ?_
    unfold page_put_raw.f
    have go : ∀ (d j : Nat) (x : List Int) (u : Int), j ≤ m → m - j = d → x.length ≤ 1000000 + j → Ev (fun k => page_put_raw.l0 k x u (m : Int) (j : Int)) (x ++ lowI u d) := by
      intro d
      induction d with
      | zero =>
        intro j x u hj hd hx
        rw [lowI, List.append_nil]
        refine Ev.step (f := fun _ => some x) (fun k => ?_) (Ev.now _)
        simp only [page_put_raw.l0]
        rw [if_neg (by omega)]
      | succ d ih =>
        intro j x u hj hd hx
        have e2 : wrap64 ((j : Int) + 1) = ((j + 1 : Nat) : Int) := by unfold wrap64; omega
        have H := ih (j + 1) (x ++ [u % 256]) (u / 256) (by omega) (by omega) (by rw [List.length_append, List.length_singleton]; omega)
        rw [List.append_assoc] at H
        refine Ev.step (fun k => ?_) H
        simp only [page_put_raw.l0]
        rw [if_pos (by omega), if_pos (show x.length < 140737488355328 by omega), e2]
    exact go m 0 l v (by omega) (by omega) (by omega)
theorem page_put.calls (P0_ : Nat → Prop) (u9000_ : Value) (l0 : List Int) (a1 : Int) (a2 : Int) (r : List Int) (w0 : World) (w : World) (hB : Below w0.heap.size w0 w) (ho0 : Kd.R (Kd.int .u8) 5 w w0.heap.size P0_ u9000_ l0) (h : page_put.f l0 a1 a2 = some r) :
  Calls Try.prog 62 #[u9000_, .int .i64 a1, .int .i64 a2] w fun e w' => ∃ v0_ : Value, e = .returned (v0_) ∧ Kd.R (Kd.int .u8) 5 w' w0.heap.size (fun k_ => (P0_ k_ ∨ w.heap.size ≤ k_)) v0_ r ∧ Below w0.heap.size w0 w' ∧ Kept w w' (fun k_ => P0_ k_) := by
  obtain ⟨k, hk⟩ := page_put.of h
  exact page_put_raw.calls k P0_ u9000_ l0 a1 a2 r w0 w hB ho0 hk

/-! ### page_get_raw: function 65 -/
def page_get_raw.l0 : Nat → Int → List Int → Int → Int → Option (Int)
 | 0, _, _, _, _ => none
 | k + 1, x3, x6, x7, x8 => if x8 < x7 then (if 0 ≤ x8 then (if x8 < (x6.length : Int) then (if 0 ≤ (wrap64 (8 * x8)) then (page_get_raw.l0 k (Go.bits .or .u64 x3 (shl .u64 (IntKind.u64.wrap (rd x6 x8)) (wrap64 (8 * x8)))) x6 x7 (wrap64 (x8 + 1))) else (none)) else (none)) else (none)) else (some x3)
def page_get_raw.f (k : Nat) (l0 : List Int) : Option (Int) := page_get_raw.l0 k 0 l0 (l0.length : Int) 0
set_option maxHeartbeats 8000000 in
set_option maxRecDepth 100000 in
theorem page_get_raw.calls (k : Nat) (A0 : Option Addr) (c0 : Nat) (l0 : List Int) (r : Int) (w : World) (hr0 : Kd.C (Kd.int .u8) w A0 l0.length l0) (hc0 : l0.length ≤ c0) (h : page_get_raw.f k l0 = some r) :
  Calls Try.prog 65 #[.slice A0 l0.length c0] w fun e w' => e = .returned (.int .u64 r) ∧ Drawn0 w w' := by
 have HR0 := Zma hr0
 have HC0 := Zma hc0
 clear hr0 hc0
 have H : (page_get_raw.l0 k 0 l0 (l0.length : Int) 0) = some r := h
 clear h
 have H' := Zma H
 clear H
 go_enter Try.func65, Try.ntmps65
 go_wp2
 go_loopg [3, 8] k (fun kq v3 v8 w' => ∃ (x3_1 : Int) (x8_1 : Int), v3 = .int .u64 x3_1 ∧ v8 = .int .i64 x8_1 ∧ Aside0 (page_get_raw.l0 kq x3_1 l0 (l0.length : Int) x8_1 = some r) ∧ Aside0 (kq ≤ k) ∧ Drawn0 w w')
 case atStart => exact ⟨(0), (0), (by first | rfl | (simp; done) | (simp [*]; done)), (by first | rfl | (simp; done) | (simp [*]; done)), H', ⟨Zra _⟩, by repeat (first | exact Drawn0.refl _ | apply Drawn0.step)⟩
 case round =>
  clear H'
  obtain ⟨x3_1, x8_1, rfl, rfl, HA, HK1, ⟨m1, rfl⟩⟩ := hrel
  cases gk with
  | zero => exact absurd HA.out (by simp [page_get_raw.l0])
  | succ k1 =>
   have H := HA.out
   clear HA
   simp only [page_get_raw.l0] at H
   by_cases c2 : x8_1 < (l0.length : Int)
   ·rw [if_pos c2] at H
    have c2b0 : decide (x8_1 < (l0.length : Int)) = true := Zn c2
    clear c2
    by_cases c3 : 0 ≤ x8_1
    rotate_left
    ·rw [if_neg c3] at H
     exact absurd H (by simp)
    rw [if_pos c3] at H
    have c3b0 : decide (0 ≤ x8_1) = true := Zn c3
    clear c3
    by_cases c4 : x8_1 < (l0.length : Int)
    rotate_left
    ·rw [if_neg c4] at H
     exact absurd H (by simp)
    rw [if_pos c4] at H
    have c4b0 : decide (x8_1 < (l0.length : Int)) = true := Zn c4
    clear c4
    obtain ⟨ji5, hji5⟩ : ∃ j_ : Int, (wrap64 (8 * x8_1)) = j_ := ⟨_, rfl⟩
    replace H : (if 0 ≤ (ji5) then (page_get_raw.l0 k1 (Go.bits .or .u64 x3_1 (shl .u64 (IntKind.u64.wrap (rd l0 x8_1)) (ji5))) l0 (l0.length : Int) (wrap64 (x8_1 + 1))) else (none)) = some r := by first | (rw [hji5] at H; exact H) | (simp only [hji5] at H ⊢; exact H)
    have hji5w : (IntKind.i64.wrap (8 * x8_1)) = ji5 := (i64_w _).trans hji5
    by_cases c6 : 0 ≤ (ji5)
    rotate_left
    ·rw [if_neg c6] at H
     exact absurd H (by simp)
    rw [if_pos c6] at H
    have c6b0 := Zja c6
    have c6b1 : decide (0 ≤ (ji5)) = true := Zn c6
    clear c6
    obtain ⟨ji7, hji7⟩ : ∃ j_ : Int, (shl .u64 (IntKind.u64.wrap (rd l0 x8_1)) (ji5)) = j_ := ⟨_, rfl⟩
    replace H : (page_get_raw.l0 k1 (Go.bits .or .u64 x3_1 (ji7)) l0 (l0.length : Int) (wrap64 (x8_1 + 1))) = some r := by first | (rw [hji7] at H; exact H) | (simp only [hji7] at H ⊢; exact H)
    have hji7_ : (IntKind.u64.wrap ((IntKind.u64.wrap (rd l0 x8_1)) * 2 ^ min (ji5).toNat 64)) = ji7 := hji7
    have hji7z : (ji5) ≤ 64 → (IntKind.u64.wrap ((IntKind.u64.wrap (rd l0 x8_1)) * 2 ^ (ji5).toNat)) = ji7 := shl_small hji7
    have H' := Zma H
    clear H
    have p101 : 0 ≤ (x8_1 : Int) := Zg (by first | (with_reducible assumption) | assumption)
    have q101 : x8_1 < (l0.length : Int) := Zg (by first | (with_reducible assumption) | assumption)
    obtain ⟨ad101, e101, hx101_0⟩ := Znb HR0.out x8_1 p101 q101
    cases e101
    replace p101 := Zja p101
    replace q101 := Zja q101
    go_wp2
    go_roundg k1
    case measure => have := HK1.out; omega
    case rel => exact ⟨(Go.bits .or .u64 x3_1 (ji7)), (wrap64 (x8_1 + 1)), (by first | rfl | (simp; done) | (simp only [← hji7] <;> (first | rfl | simp)) | (simp [*]; done)), (by first | rfl | (simp; done) | (simp [*]; done)), H', ⟨by have := HK1.out; omega⟩, by repeat (first | exact Drawn0.refl _ | apply Drawn0.step)⟩
   rw [if_neg c2] at H
   have c2b0 : decide (x8_1 < (l0.length : Int)) = false := Zna c2
   clear c2
   obtain rfl := Zgb H
   go_wp2
   go_ret
   exact ⟨by first | rfl | (simp; done) | (simp [*]; done), by repeat (first | exact Drawn0.refl _ | apply Drawn0.step)⟩

theorem or_byte64 (acc x : Int) (i : Nat) (hi : i ≤ 7) (h0 : 0 ≤ acc) (h1 : acc < 2 ^ (8 * i)) (hx0 : 0 ≤ x) (hx1 : x < 256) : Go.bits .or .u64 acc (shl .u64 (IntKind.u64.wrap x) (wrap64 (8 * (i : Int)))) = acc + x * 2 ^ (8 * i) := by
  have e1 : IntKind.u64.wrap x = x := wraps_u64 x hx0 (by omega)
  have e2 : wrap64 (8 * (i : Int)) = ((8 * i : Nat) : Int) := by rw [wrap64_of (by omega) (by omega)]; omega
  have hp : (0 : Int) < 2 ^ (8 * i) := Int.pow_pos (by decide)
  have hlt : x * 2 ^ (8 * i) < 2 ^ 64 := by
    have h2 : x * 2 ^ (8 * i) ≤ 255 * 2 ^ (8 * i) := Int.mul_le_mul_of_nonneg_right (by omega) (Int.le_of_lt hp)
    have h3 : (255 : Int) * 2 ^ (8 * i) < 2 ^ 64 := by
      have : ∀ j : Fin 8, (255 : Int) * 2 ^ (8 * j.val) < 2 ^ 64 := by decide
      exact this ⟨i, by omega⟩
    omega
  have hnn : 0 ≤ x * 2 ^ (8 * i) := Int.mul_nonneg hx0 (Int.le_of_lt hp)
  have e3 : shl .u64 x ((8 * i : Nat) : Int) = x * 2 ^ (8 * i) := by
    unfold shl
    rw [Int.toNat_natCast, Nat.min_eq_left (show 8 * i ≤ IntKind.u64.bits by simp only [IntKind.bits]; omega)]
    exact wraps_u64 _ hnn hlt
  rw [e1, e2, e3, bits_comm_or]
  have hq : (2 : Int) ^ (8 * i) ≤ 2 ^ 64 := by
    have : ∀ j : Fin 8, (2 : Int) ^ (8 * j.val) ≤ 2 ^ 64 := by decide
    exact this ⟨i, by omega⟩
  rw [bits_join .u64 64 (by decide) wraps_u64 (8 * i) (x * 2 ^ (8 * i)) acc hnn (Int.mul_emod_left _ _) hlt h0 h1 (by omega), Int.add_comm]
def page_get.f (b : List Int) : Option Int := if okB b ∧ b.length ≤ 8 then some (valI b) else none
theorem page_get.of {b : List Int} {r : Int} (h : page_get.f b = some r) : ∃ k, page_get_raw.f k b = some r := by
  unfold page_get.f at h
  split at h
  case isFalse => cases h
  case isTrue h0 =>
    obtain ⟨hb, hn⟩ := h0
    injection h with h
    subst h
    refine Ev.rounds ?_
    unfold page_get_raw.f
    have go : ∀ j : Nat, j ≤ b.length → Ev (fun k => page_get_raw.l0 k (valI (b.take j)) b (b.length : Int) (j : Int)) (valI b) := by
      intro j hj
      induction hd : b.length - j generalizing j with
      | zero =>
        obtain rfl : j = b.length := by omega
        rw [List.take_length]
        refine Ev.step (f := fun _ => some (valI b)) (fun k => ?_) (Ev.now _)
        simp only [page_get_raw.l0]
        rw [if_neg (by omega)]
      | succ d ih =>
        refine Ev.step (f := fun k => page_get_raw.l0 k (valI (b.take (j + 1))) b (b.length : Int) ((j + 1 : Nat) : Int)) (fun k => ?_) (ih (j + 1) (by omega) (by omega))
        have hx := rd_mem hb (j : Int) (by omega)
        have h1 : (j : Int) < (b.length : Int) := by omega
        have h2 : (0 : Int) ≤ (j : Int) := by omega
        have h3 : 0 ≤ wrap64 (8 * (j : Int)) := by rw [wrap64_of (by omega) (by omega)]; omega
        have h4 : wrap64 ((j : Int) + 1) = ((j + 1 : Nat) : Int) := by unfold wrap64; omega
        have hlt := valI_lt (okB_take hb j)
        rw [Zga, Nat.min_eq_left (by omega)] at hlt
        have ho := or_byte64 (valI (b.take j)) (rd b (j : Int)) j (by omega) (valI_nonneg (okB_take hb j)) hlt hx.1 hx.2
        simp only [page_get_raw.l0]
        rw [if_pos h1, if_pos h2, if_pos h1, if_pos h3, h4, ho, valI_take b j (by omega)]
    exact go 0 (by omega)
theorem page_get.calls (A0 : Option Addr) (c0 : Nat) (l0 : List Int) (r : Int) (w : World) (hr0 : Kd.C (Kd.int .u8) w A0 l0.length l0) (hc0 : l0.length ≤ c0) (h : page_get.f l0 = some r) :
  Calls Try.prog 65 #[.slice A0 l0.length c0] w fun e w' => e = .returned (.int .u64 r) ∧ Drawn0 w w' := by
  obtain ⟨k, hk⟩ := page_get.of h
  exact page_get_raw.calls k A0 c0 l0 r w hr0 hc0 hk

def page_begins.f (l : List Int) : Option Bool := if 4 ≤ l.length then some (magic4 l) else none
theorem iter_pos (w : World) (s : ByteArray) (i : Nat) : (w.iter s i).iterPos w.heap.size = i := by
  unfold World.iterPos
  rw [World.iter_heap]
set_option maxHeartbeats 8000000 in
set_option maxRecDepth 100000 in
theorem page_begins.calls (A0 : Option Addr) (c0 : Nat) (l0 : List Int) (r : Bool) (w : World) (hr0 : Kd.C (Kd.int .u8) w A0 l0.length l0) (hc0 : l0.length ≤ c0) (h : page_begins.f l0 = some r) :
    Calls Try.prog 66 #[.slice A0 l0.length c0] w fun e w' => e = .returned (.bool r) ∧ Below w.heap.size w w' := by
  unfold page_begins.f at h
  by_cases h4 : 4 ≤ l0.length
  · rw [if_pos h4] at h
    have hr := Zma (Zgb h)
    clear h
    obtain ⟨ad, rfl, _⟩ := Znb hr0 0 (by omega) (by omega)
    have hy : ∀ (i : Nat) (j : Int), 0 ≤ j → j < 4 → (w.iter ⟨#[80, 83, 76, 84]⟩ i).cell? (ad.add j.toNat) = some (.int .u8 (rd l0 j)) := fun i j h0 h1 => by
      obtain ⟨_, e1, h⟩ := Znb (Zba hr0 (.stringIter ⟨#[80, 83, 76, 84]⟩ i)) j h0 (by omega)
      cases e1
      exact h
    obtain ⟨x0, hX0⟩ : ∃ x, IntKind.i32.wrap (rd l0 0) = x := ⟨_, rfl⟩
    obtain ⟨x1, hX1⟩ : ∃ x, IntKind.i32.wrap (rd l0 1) = x := ⟨_, rfl⟩
    obtain ⟨x2, hX2⟩ : ∃ x, IntKind.i32.wrap (rd l0 2) = x := ⟨_, rfl⟩
    obtain ⟨x3, hX3⟩ : ∃ x, IntKind.i32.wrap (rd l0 3) = x := ⟨_, rfl⟩
    have hm : Aside0 (magic4 l0 = decide (x0 = 80 ∧ x1 = 83 ∧ x2 = 76 ∧ x3 = 84)) := ⟨by unfold magic4; rw [hX0, hX1, hX2, hX3]⟩
    have hbel : ∀ s i, Below w.heap.size w (w.iter s i) := fun s i => (Below.refl _ _).alloc (Zra _) _
    have HBel := Zma hbel
    clear hbel
    have hn0 : ∀ ty, (Instr.next (.pointer (some ⟨w.heap.size, 0, none⟩)) true ty).run Try.prog (w.iter ⟨#[80, 83, 76, 84]⟩ 0) = .ok (.tuple #[.bool true, .int .i64 0, .int .i32 80]) (w.iter ⟨#[80, 83, 76, 84]⟩ 1) := fun ty => run_next_ascii (P := Try.prog) w ⟨#[80, 83, 76, 84]⟩ 0 ty (by decide) (by decide)
    have hn1 : ∀ ty, (Instr.next (.pointer (some ⟨w.heap.size, 0, none⟩)) true ty).run Try.prog (w.iter ⟨#[80, 83, 76, 84]⟩ 1) = .ok (.tuple #[.bool true, .int .i64 1, .int .i32 83]) (w.iter ⟨#[80, 83, 76, 84]⟩ 2) := fun ty => run_next_ascii (P := Try.prog) w ⟨#[80, 83, 76, 84]⟩ 1 ty (by decide) (by decide)
    have hn2 : ∀ ty, (Instr.next (.pointer (some ⟨w.heap.size, 0, none⟩)) true ty).run Try.prog (w.iter ⟨#[80, 83, 76, 84]⟩ 2) = .ok (.tuple #[.bool true, .int .i64 2, .int .i32 76]) (w.iter ⟨#[80, 83, 76, 84]⟩ 3) := fun ty => run_next_ascii (P := Try.prog) w ⟨#[80, 83, 76, 84]⟩ 2 ty (by decide) (by decide)
    have hn3 : ∀ ty, (Instr.next (.pointer (some ⟨w.heap.size, 0, none⟩)) true ty).run Try.prog (w.iter ⟨#[80, 83, 76, 84]⟩ 3) = .ok (.tuple #[.bool true, .int .i64 3, .int .i32 84]) (w.iter ⟨#[80, 83, 76, 84]⟩ 4) := fun ty => run_next_ascii (P := Try.prog) w ⟨#[80, 83, 76, 84]⟩ 3 ty (by decide) (by decide)
    have hn4 := fun ty => run_next_end (P := Try.prog) w ⟨#[80, 83, 76, 84]⟩ 4 ty (by decide)
    have hy0 : (w.iter ⟨#[80, 83, 76, 84]⟩ 1).cell? ad = some (.int .u8 (rd l0 0)) := by have h := hy 1 0 (by decide) (by decide); rwa [show (0 : Int).toNat = 0 from rfl, Addr.add, if_pos rfl] at h
    have hy1 : (w.iter ⟨#[80, 83, 76, 84]⟩ 2).cell? ⟨ad.block, ad.off + 1, none⟩ = some (.int .u8 (rd l0 1)) := hy 2 1 (by decide) (by decide)
    have hy2 : (w.iter ⟨#[80, 83, 76, 84]⟩ 3).cell? ⟨ad.block, ad.off + 2, none⟩ = some (.int .u8 (rd l0 2)) := hy 3 2 (by decide) (by decide)
    have hy3 : (w.iter ⟨#[80, 83, 76, 84]⟩ 4).cell? ⟨ad.block, ad.off + 3, none⟩ = some (.int .u8 (rd l0 3)) := hy 4 3 (by decide) (by decide)
    clear hy hr0
    have hl4 : (4 : Int) ≤ (l0.length : Int) := by omega
    go_enter Try.func66, Try.ntmps66
    go_wp2
    go_loopw [] (fun wr => ∃ i : Nat, i ≤ 4 ∧ wr = w.iter ⟨#[80, 83, 76, 84]⟩ i ∧ Aside0 (0 < i → x0 = 80) ∧ Aside0 (1 < i → x1 = 83) ∧ Aside0 (2 < i → x2 = 76) ∧ Aside0 (3 < i → x3 = 84))
      (fun wr => 4 - wr.iterPos w.heap.size)
    case atStart => exact ⟨0, by decide, rfl, ⟨fun h => absurd h (by decide)⟩, ⟨fun h => absurd h (by decide)⟩, ⟨fun h => absurd h (by decide)⟩, ⟨fun h => absurd h (by decide)⟩⟩
    case round =>
      obtain ⟨i, hi, rfl, P0, P1, P2, P3⟩ := hrel
      match i, hi with
      | 0, _ =>
        by_cases ej : x0 = 80
        · have e' : (x0 != 80) = false := by simp [ej]
          go_wp2
          exact ⟨⟨1, by decide, rfl, ⟨fun _ => ej⟩, ⟨fun h => absurd h (by decide)⟩, ⟨fun h => absurd h (by decide)⟩, ⟨fun h => absurd h (by decide)⟩⟩, by rw [iter_pos, iter_pos]; decide⟩
        · have e' : (x0 != 80) = true := by simp [ej]
          have hr' : r = false := by rw [← hr.out, hm.out]; exact Zna (fun h => ej h.1)
          clear hr
          subst hr'
          go_wp2
          go_ret
          exact ⟨rfl, HBel.out _ _⟩
      | 1, _ =>
        by_cases ej : x1 = 83
        · have e' : (x1 != 83) = false := by simp [ej]
          go_wp2
          exact ⟨⟨2, by decide, rfl, ⟨fun _ => P0.out (by decide)⟩, ⟨fun _ => ej⟩, ⟨fun h => absurd h (by decide)⟩, ⟨fun h => absurd h (by decide)⟩⟩, by rw [iter_pos, iter_pos]; decide⟩
        · have e' : (x1 != 83) = true := by simp [ej]
          have hr' : r = false := by rw [← hr.out, hm.out]; exact Zna (fun h => ej h.2.1)
          clear hr
          subst hr'
          go_wp2
          go_ret
          exact ⟨rfl, HBel.out _ _⟩
      | 2, _ =>
        by_cases ej : x2 = 76
        · have e' : (x2 != 76) = false := by simp [ej]
          go_wp2
          exact ⟨⟨3, by decide, rfl, ⟨fun _ => P0.out (by decide)⟩, ⟨fun _ => P1.out (by decide)⟩, ⟨fun _ => ej⟩, ⟨fun h => absurd h (by decide)⟩⟩, by rw [iter_pos, iter_pos]; decide⟩
        · have e' : (x2 != 76) = true := by simp [ej]
          have hr' : r = false := by rw [← hr.out, hm.out]; exact Zna (fun h => ej h.2.2.1)
          clear hr
          subst hr'
          go_wp2
          go_ret
          exact ⟨rfl, HBel.out _ _⟩
      | 3, _ =>
        by_cases ej : x3 = 84
        · have e' : (x3 != 84) = false := by simp [ej]
          go_wp2
          exact ⟨⟨4, by decide, rfl, ⟨fun _ => P0.out (by decide)⟩, ⟨fun _ => P1.out (by decide)⟩, ⟨fun _ => P2.out (by decide)⟩, ⟨fun _ => ej⟩⟩, by rw [iter_pos, iter_pos]; decide⟩
        · have e' : (x3 != 84) = true := by simp [ej]
          have hr' : r = false := by rw [← hr.out, hm.out]; exact Zna (fun h => ej h.2.2.2)
          clear hr
          subst hr'
          go_wp2
          go_ret
          exact ⟨rfl, HBel.out _ _⟩
      | 4, _ =>
        have hr' : r = true := by rw [← hr.out, hm.out]; exact Zn ⟨P0.out (by decide), P1.out (by decide), P2.out (by decide), P3.out (by decide)⟩
        clear hr
        subst hr'
        go_wp2
        go_ret
        exact ⟨rfl, HBel.out _ _⟩
  · rw [if_neg h4] at h
    cases h

/-! ### page_parts_raw: function 67 -/
def page_parts_raw.l0 : Nat → List Int → List (List Int) → Int → Bool → List Int → Int → Int → Option ((List (List Int)) × Bool)
 | 0, _, _, _, _, _, _, _ => none
 | k + 1, x1, x6, x7, x8, x11, x12, x13 => if x13 < x12 then (if 0 ≤ x13 then (if x13 < (x11.length : Int) then (if ((rd x11 x13) = 255) then (page_parts_raw.l0 k x1 x6 (wrap64 (x7 + (wrap64 (rd x11 x13)))) ((rd x11 x13) == 255) x11 x12 (wrap64 (x13 + 1))) else ((some (([] : List Int) : List Int)).bind fun y102 => (if 0 ≤ (wrap64 (x7 + (wrap64 (rd x11 x13)))) then (if (wrap64 (x7 + (wrap64 (rd x11 x13)))) ≤ (x1.length : Int) then ((some (x1.take ((wrap64 (x7 + (wrap64 (rd x11 x13)))) : Int).toNat : List Int)).bind fun y105 => (if y102.length + y105.length < 140737488355328 then (if x6.length < 5864062014805 then (page_parts_raw.l0 k (x1.drop ((wrap64 (x7 + (wrap64 (rd x11 x13)))) : Int).toNat) (x6 ++ [(y102 ++ y105)]) 0 ((rd x11 x13) == 255) x11 x12 (wrap64 (x13 + 1))) else (none)) else (none))) else (none)) else (none)))) else (none)) else (none)) else (if x8 = true then ((some (([] : List Int) : List Int)).bind fun y121 => (if 0 ≤ x7 then (if x7 ≤ (x1.length : Int) then ((some (x1.take (x7 : Int).toNat : List Int)).bind fun y124 => (if y121.length + y124.length < 140737488355328 then (if x6.length < 5864062014805 then (some ((x6 ++ [(y121 ++ y124)]), x8)) else (none)) else (none))) else (none)) else (none))) else (some (x6, x8)))
def page_parts_raw.f (k : Nat) (l0 : List Int) (l1 : List Int) : Option ((List (List Int)) × Bool) := page_parts_raw.l0 k l1 ([] : List (List Int)) 0 false l0 (l0.length : Int) 0
set_option maxHeartbeats 8000000 in
set_option maxRecDepth 100000 in
theorem page_parts_raw.calls (k : Nat) (A0 : Option Addr) (c0 : Nat) (l0 : List Int) (P1_ : Nat → Prop) (A1 : Option Addr) (c1 : Nat) (l1 : List Int) (r1 : List (List Int)) (r2 : Bool) (w : World) (hr0 : Kd.C (Kd.int .u8) w A0 l0.length l0) (hc0 : l0.length ≤ c0) (hs1 : Kd.V (Kd.int .u8) 5 w w.heap.size (fun k_ => P1_ k_) (.slice A1 l1.length c1) l1) (h : page_parts_raw.f k l0 l1 = some (r1, r2)) :
  Calls Try.prog 67 #[.slice A0 l0.length c0, .slice A1 l1.length c1] w fun e w' => ∃ v0_ : Value, e = .returned (.tuple #[v0_, .bool r2]) ∧ Kd.S (Kd.slice 5 (Kd.int .u8)) 28 w' w.heap.size (fun k_ => (w.heap.size ≤ k_)) v0_ r1 ∧ Below w.heap.size w w' := by
 have HR0 := Zma hr0
 have HC0 := Zma hc0
 clear hr0 hc0
 have HO1 := Zma (show Kd.V (Kd.int .u8) 5 w w.heap.size (fun k_ => (P1_ k_ ∨ w.heap.size ≤ k_)) (.slice A1 l1.length c1) l1 from Zwa hs1 (fun k_ hk => .inl hk))
 have HB := Zma (Below.refl w.heap.size w)
 have H : (page_parts_raw.l0 k l1 ([] : List (List Int)) 0 false l0 (l0.length : Int) 0) = some (r1, r2) := h
 clear h
 have H' := Zma H
 clear H
 go_enter Try.func67, Try.ntmps67
 go_wp2
 go_loopg [1, 6, 7, 8, 13] k (fun kq v1 v6 v7 v8 v13 w' => ∃ (x1_1 : List Int) (x6_1 : List (List Int)) (x7_1 : Int) (x8_1 : Bool) (x13_1 : Int), v7 = .int .i64 x7_1 ∧ v8 = .bool x8_1 ∧ v13 = .int .i64 x13_1 ∧ Aside0 (page_parts_raw.l0 kq x1_1 x6_1 x7_1 x8_1 l0 (l0.length : Int) x13_1 = some (r1, r2)) ∧ Aside0 (kq ≤ k) ∧ Aside0 (Kd.V (Kd.int .u8) 5 w' w.heap.size (fun k_ => (P1_ k_ ∨ w.heap.size ≤ k_) ∧ some k_ ≠ (v6 : Value).ownBlock) v1 x1_1) ∧ Aside0 (Kd.S (Kd.slice 5 (Kd.int .u8)) 28 w' w.heap.size (fun k_ => (w.heap.size ≤ k_)) v6 x6_1) ∧ Aside0 (Below w.heap.size w w'))
 case atStart => exact ⟨(l1), (([] : List (List Int))), (0), (false), (0), (by first | rfl | (simp; done) | (simp [*]; done)), (by first | rfl | (simp; done) | (simp [*]; done)), (by first | rfl | (simp; done) | (simp [*]; done)), H', ⟨Zra _⟩, ⟨by refine vq ?_; exact Zwa HO1.out (fun _ hk => ⟨hk, (by simp [Value.ownBlock])⟩)⟩, ⟨by first | exact Kd.S_nil _ _ _ _ _ | exact Kd.N_nil _ _ _ _ _ | exact Kd.V_nil _ _ _ _ _ | exact Kd.Q_nil _ _ _ _ _ | exact Kd.R_nil _ _ _ _ _⟩, ⟨bq⟩⟩
 case round =>
  clear H'
  try clear c1
  try clear p2
  obtain ⟨x1_1, x6_1, x7_1, x8_1, x13_1, rfl, rfl, rfl, HA, HK1, HO_1, HO_6, HB⟩ := hrel
  cases gk with
  | zero => exact absurd HA.out (by simp [page_parts_raw.l0])
  | succ k1 =>
   have H := HA.out
   clear HA
   simp only [page_parts_raw.l0] at H
   by_cases c3 : x13_1 < (l0.length : Int)
   ·rw [if_pos c3] at H
    have c3b0 : decide (x13_1 < (l0.length : Int)) = true := Zn c3
    clear c3
    by_cases c4 : 0 ≤ x13_1
    rotate_left
    ·rw [if_neg c4] at H
     exact absurd H (by simp)
    rw [if_pos c4] at H
    have c4b0 : decide (0 ≤ x13_1) = true := Zn c4
    clear c4
    by_cases c5 : x13_1 < (l0.length : Int)
    rotate_left
    ·rw [if_neg c5] at H
     exact absurd H (by simp)
    rw [if_pos c5] at H
    have c5b0 : decide (x13_1 < (l0.length : Int)) = true := Zn c5
    clear c5
    by_cases c6 : ((rd l0 x13_1) = 255)
    ·rw [if_pos c6] at H
     have c6b0 : ((rd l0 x13_1) == 255) = true := beq_iff_eq.mpr c6
     have c6b1 : ((rd l0 x13_1) != 255) = false := bne_eq_false_iff_eq.mpr c6
     clear c6
     have H' := Zma H
     clear H
     have p101 : 0 ≤ (x13_1 : Int) := Zg (by first | (with_reducible assumption) | assumption)
     have q101 : x13_1 < (l0.length : Int) := Zg (by first | (with_reducible assumption) | assumption)
     obtain ⟨ad101, e101, hx101_0⟩ := Znb HR0.out x13_1 p101 q101
     cases e101
     replace hx101_0 := (HB.out.cell (Zh w _ hx101_0)).trans hx101_0
     replace p101 := Zja p101
     replace q101 := Zja q101
     go_wp2
     go_roundg k1
     case measure => have := HK1.out; omega
     case rel => exact ⟨(x1_1), (x6_1), (wrap64 (x7_1 + (wrap64 (rd l0 x13_1)))), (((rd l0 x13_1) == 255)), (wrap64 (x13_1 + 1)), (by first | rfl | (simp; done) | (simp [*]; done)), (by first | rfl | (simp; done) | (simp [*]; done)), (by first | rfl | (simp; done) | (simp [*]; done)), H', ⟨by have := HK1.out; omega⟩, ⟨vq HO_1.out⟩, ⟨sq HO_6.out⟩, ⟨bq⟩⟩
    rw [if_neg c6] at H
    have c6b0 : ((rd l0 x13_1) == 255) = false := beq_eq_false_iff_ne.mpr c6
    have c6b1 : ((rd l0 x13_1) != 255) = true := bne_iff_ne.mpr c6
    obtain ⟨y102, hy102⟩ : ∃ y_ : List Int, y_ = (([] : List Int)) := ⟨_, rfl⟩
    replace H : (if 0 ≤ (wrap64 (x7_1 + (wrap64 (rd l0 x13_1)))) then (if (wrap64 (x7_1 + (wrap64 (rd l0 x13_1)))) ≤ (x1_1.length : Int) then ((some (x1_1.take ((wrap64 (x7_1 + (wrap64 (rd l0 x13_1)))) : Int).toNat : List Int)).bind fun y105 => (if y102.length + y105.length < 140737488355328 then (if x6_1.length < 5864062014805 then (page_parts_raw.l0 k1 (x1_1.drop ((wrap64 (x7_1 + (wrap64 (rd l0 x13_1)))) : Int).toNat) (x6_1 ++ [(y102 ++ y105)]) 0 ((rd l0 x13_1) == 255) l0 (l0.length : Int) (wrap64 (x13_1 + 1))) else (none)) else (none))) else (none)) else (none)) = some (r1, r2) := by first | (rw [hy102]; with_reducible exact H) | (have H2_ := (Zsa _ _).symm.trans H; rw [hy102]; with_reducible exact H2_) | (have H2_ := (Zsa _ _).symm.trans H; with_reducible exact H2_) | with_reducible exact H | (rw [hy102]; exact H) | exact H
    have Ny102 := Zma hy102
    clear hy102
    obtain ⟨ji7, hji7⟩ : ∃ j_ : Int, (wrap64 (x7_1 + (wrap64 (rd l0 x13_1)))) = j_ := ⟨_, rfl⟩
    replace H : (if 0 ≤ (ji7) then (if (ji7) ≤ (x1_1.length : Int) then ((some (x1_1.take ((ji7) : Int).toNat : List Int)).bind fun y105 => (if y102.length + y105.length < 140737488355328 then (if x6_1.length < 5864062014805 then (page_parts_raw.l0 k1 (x1_1.drop ((ji7) : Int).toNat) (x6_1 ++ [(y102 ++ y105)]) 0 ((rd l0 x13_1) == 255) l0 (l0.length : Int) (wrap64 (x13_1 + 1))) else (none)) else (none))) else (none)) else (none)) = some (r1, r2) := by first | (rw [hji7] at H; exact H) | (simp only [hji7] at H ⊢; exact H)
    have hji7w : (IntKind.i64.wrap (x7_1 + (wrap64 (rd l0 x13_1)))) = ji7 := (i64_w _).trans hji7
    by_cases c8 : 0 ≤ (ji7)
    rotate_left
    ·rw [if_neg c8] at H
     exact absurd H (by simp)
    rw [if_pos c8] at H
    have c8b0 := Zja c8
    have c8b1 : decide (0 ≤ (ji7)) = true := Zn c8
    clear c8
    by_cases c9 : (ji7) ≤ (x1_1.length : Int)
    rotate_left
    ·rw [if_neg c9] at H
     exact absurd H (by simp)
    rw [if_pos c9] at H
    have c9b0 := Zja c9
    have c9b1 : decide ((ji7) ≤ (x1_1.length : Int)) = true := Zn c9
    clear c9
    obtain ⟨y105, hy105⟩ : ∃ y_ : List Int, y_ = (x1_1.take ((ji7) : Int).toNat) := ⟨_, rfl⟩
    replace H : (if y102.length + y105.length < 140737488355328 then (if x6_1.length < 5864062014805 then (page_parts_raw.l0 k1 (x1_1.drop ((ji7) : Int).toNat) (x6_1 ++ [(y102 ++ y105)]) 0 ((rd l0 x13_1) == 255) l0 (l0.length : Int) (wrap64 (x13_1 + 1))) else (none)) else (none)) = some (r1, r2) := by first | (rw [hy105]; with_reducible exact H) | (have H2_ := (Zsa _ _).symm.trans H; rw [hy105]; with_reducible exact H2_) | (have H2_ := (Zsa _ _).symm.trans H; with_reducible exact H2_) | with_reducible exact H | (rw [hy105]; exact H) | exact H
    have Ny105 := Zma hy105
    clear hy105
    by_cases c10 : y102.length + y105.length < 140737488355328
    rotate_left
    ·rw [if_neg c10] at H
     exact absurd H (by simp)
    rw [if_pos c10] at H
    have LMc10 := Zma c10
    clear c10
    obtain ⟨y110, hy110⟩ : ∃ y_ : List Int, y_ = (y102 ++ y105) := ⟨_, rfl⟩
    replace H : (if x6_1.length < 5864062014805 then (page_parts_raw.l0 k1 (x1_1.drop ((ji7) : Int).toNat) (x6_1 ++ [y110]) 0 ((rd l0 x13_1) == 255) l0 (l0.length : Int) (wrap64 (x13_1 + 1))) else (none)) = some (r1, r2) := by first | (rw [hy110]; with_reducible exact H) | (have H2_ := (Zsa _ _).symm.trans H; rw [hy110]; with_reducible exact H2_) | (have H2_ := (Zsa _ _).symm.trans H; with_reducible exact H2_) | with_reducible exact H | (rw [hy110]; exact H) | exact H
    have Ny110 := Zma hy110
    clear hy110
    by_cases c11 : x6_1.length < 5864062014805
    rotate_left
    ·rw [if_neg c11] at H
     exact absurd H (by simp)
    rw [if_pos c11] at H
    have LMc11 := Zma c11
    clear c11
    obtain ⟨y113, hy113⟩ : ∃ y_ : List (List Int), y_ = (x6_1 ++ [y110]) := ⟨_, rfl⟩
    replace H : (page_parts_raw.l0 k1 (x1_1.drop ((ji7) : Int).toNat) y113 0 ((rd l0 x13_1) == 255) l0 (l0.length : Int) (wrap64 (x13_1 + 1))) = some (r1, r2) := by first | (rw [hy113]; with_reducible exact H) | (have H2_ := (Zsa _ _).symm.trans H; rw [hy113]; with_reducible exact H2_) | (have H2_ := (Zsa _ _).symm.trans H; with_reducible exact H2_) | with_reducible exact H | (rw [hy113]; exact H) | exact H
    have Ny113 := Zma hy113
    clear hy113
    have c12b0 := Zja (Zg (by first | (with_reducible assumption) | assumption) : 0 ≤ (ji7))
    have c13b0 := Zja (Zg (by first | (with_reducible assumption) | assumption) : (ji7) ≤ (x1_1.length : Int))
    obtain ⟨y116, hy116⟩ : ∃ y_ : List Int, y_ = (x1_1.drop ((ji7) : Int).toNat) := ⟨_, rfl⟩
    replace H : (page_parts_raw.l0 k1 y116 y113 0 ((rd l0 x13_1) == 255) l0 (l0.length : Int) (wrap64 (x13_1 + 1))) = some (r1, r2) := by first | (rw [hy116]; with_reducible exact H) | (have H2_ := (Zsa _ _).symm.trans H; rw [hy116]; with_reducible exact H2_) | (have H2_ := (Zsa _ _).symm.trans H; with_reducible exact H2_) | with_reducible exact H | (rw [hy116]; exact H) | exact H
    have Ny116 := Zma hy116
    clear hy116
    have H' := Zma H
    clear H
    have p101 : 0 ≤ (x13_1 : Int) := Zg (by first | (with_reducible assumption) | assumption)
    have q101 : x13_1 < (l0.length : Int) := Zg (by first | (with_reducible assumption) | assumption)
    obtain ⟨ad101, e101, hx101_0⟩ := Znb HR0.out x13_1 p101 q101
    cases e101
    replace hx101_0 := (HB.out.cell (Zh w _ hx101_0)).trans hx101_0
    replace p101 := Zja p101
    replace q101 := Zja q101
    go_wp2_with (first | ((with_reducible refine gate_dst (N := 26) rfl ?_); refine Kd.R_lit (Kd.int .u8) _ 5 ?hg (N := 26) ?hd (xs := ([] : List Int)) (inner := []) (ok := fun _ => True) (okp := fun _ => True) ?hr ?hp (fun _ hk => hk) trivial (Below.refl _ _) (Zra _) (by simp) ?_; (case hd => rfl); (case hg => rfl); (case hr => first | (go_simp; done) | (go_simp; rfl)); (case hp => exact (Reps.none _ _)); intro v103 w14 ho15 hb hg_ hnew_; clear hg_ hnew_; (first | rw [← Ny102.out] at ho15 | (simp only [Int.reduceToNat] at ho15; rw [← Ny102.out] at ho15)); have n0_ := Zma (Kd.V_elder' (vq HO_1.out) (Kd.R_base ho15) hb); have n1_ := Zma (Kd.S_elder' (sq HO_6.out) (Kd.R_base ho15) hb); have n2_ := Zma (Zxa (Kd.R_newM (M := fun k_ => (w.heap.size ≤ k_)) ho15 (Zfa bq) (fun k_ h_ => h_)) (Zfa bq)); have n3_ := Zma (Zoa bq hb); clear HO_1 HO_6 HB; have HO_1 := n0_; have HO_6 := n1_; have HO104 := n2_; have HB := n3_; clear n0_ n1_ n2_ n3_ hb ho15; obtain ⟨Ao17, co17, eo17⟩ := Kd.V_slice HO_1.out; subst eo17; have q16 : ((ji7) : Int) ≤ ((x1_1.length : Int) : Int) := Zg (by first | (with_reducible assumption) | assumption); obtain ⟨i016, hi016, _, hsz16, _⟩ := info_parts info5; have hroom16 : x1_1.length ≤ co17 := (Zjb HO_1.out).2.1; have hC16 : Kd.F (Kd.int .u8) _ _ Ao17 x1_1.length x1_1 := (Kd.V_at (base := w.heap.size) HO_1.out).2.2; have hcut16 := cut_to3 (P := Try.prog) 28 5 .i64 .i64 Try.underlying28 hi016 Ao17 x1_1.length co17 (ji7) (Zg (by first | (with_reducible assumption) | assumption)) q16 hroom16; have hr16 := Kd.F_take (m := ((ji7) : Int).toNat) hC16 (by omega); have hy16 : y105.length = ((ji7) : Int).toNat := (by rw [Ny105.out, Zga]; omega); rw [← Ny105.out] at hr16; rw [← hy16] at hcut16; have HO109 := Zma (show Kd.V (Kd.int .u8) 5 _ w.heap.size _ (.slice Ao17 y105.length y105.length) y105 from Kd.V_mk (Zra _) hr16); have HC109 := Zma (Zra y105.length); clear hr16 hC16 hroom16 hi016 hsz16; have KY16 := Zma hy16; clear hy16; replace q16 := Zja q16) | ((with_reducible refine gate_builtin (b := .append) (xs := #[.tmp 26, .tmp 30]) rfl ?_); at_builtin; refine Kd.R_append_rows (Kd.int .u8) (w0 := w) w.heap.size rfl (.tmp 26) (.tmp 30) 28 5 (.int .u8 0) 1 rfl Try.underlying28 info5 rfl (by decide) (by omega) v103 y102 y105 _ _ _ (fun k_ => (w.heap.size ≤ k_)) (fun _ => False) rfl rfl ?aO ?aR (fun _ _ h => h) (fun _ h => h.elim) ?aF ?aB ?aS ?aL ?_; (case aR => exact cq ((Zjb HO109.out).2.2)); (case aB => exact bq); (case aF => exact (fun k_ hk => (Nat.le_trans (Zfa bq) hk))); (case aO => exact (by refine rq ?_; exact Kd.R_mono HO104.out (fun _ hk => hk.1))); (case aS => exact (Zfa bq)); (case aL => have := LMc10.out; omega); intro v111 w18 ho hb hg hat; rw [← Ny110.out] at ho; have n0_ := Zma (Kd.V_afterv (ok := (fun k_ => (P1_ k_ ∨ w.heap.size ≤ k_) ∧ some k_ ≠ (u6 : Value).ownBlock)) (vq HO_1.out) hg hat); have n1_ := Zma (Kd.S_after (ok := (fun k_ => (w.heap.size ≤ k_))) (sq HO_6.out) hg hat); have n2_ := Zma (Kd.V_afterv (ok := (fun k_ => (P1_ k_ ∨ w.heap.size ≤ k_) ∧ some k_ ≠ (u6 : Value).ownBlock)) (vq HO109.out) hg hat); have n3_ := Zma (hb); have n4_ := Zma (ho); clear HO_1 HO_6 HO109 HB HO104; have HO_1 := n0_; have HO_6 := n1_; have HO109 := n2_; have HB := n3_; have HO112 := n4_; clear n0_ n1_ n2_ n3_ n4_ ho hb hg hat; obtain ⟨Ao20, co20, eo20⟩ := Kd.R_slice HO112.out; subst eo20) | ((with_reducible refine gate_builtin (b := .append) (xs := #[.tmp 25, .tmp 32]) rfl ?_); at_builtin; refine Kd.S_append (Kd.slice 5 (Kd.int .u8)) (w0 := w) w.heap.size rfl (.tmp 25) (.tmp 32) 41 28 (.slice none 0 0) 24 rfl Try.underlying41 info28 rfl (by decide) (by omega) u6 x6_1 y110 [.slice Ao20 y110.length co20] (fun k_ => (w.heap.size ≤ k_)) (fun k_ => some k_ = (.slice Ao20 y110.length co20 : Value).ownBlock) rfl rfl ?aP (fun k_ hk_ => ((Kd.R_mono (ok' := fun k_ => ((fun k_ => (w.heap.size ≤ k_))) k_ ∧ some k_ ≠ (u6 : Value).ownBlock) (Kd.R_apart' (HO112.out) (Kd.S_typed HO_6.out) (by decide)) (fun k_ hk => ⟨hk.1, hk.2⟩))).1 k_ hk_.symm) ?aF ?aO ?aB ?aS ?aL ?_; (case aP => exact Kd.M_row (Kd.R_mono (Kd.R_tight rfl (Kd.R_mono (ok' := fun k_ => ((fun k_ => (w.heap.size ≤ k_))) k_ ∧ some k_ ≠ (u6 : Value).ownBlock) (Kd.R_apart' (HO112.out) (Kd.S_typed HO_6.out) (by decide)) (fun k_ hk => ⟨hk.1, hk.2⟩))) (fun _ h_ => h_))); (case aB => exact bq); (case aF => exact (fun k_ hk => (Nat.le_trans (Zfa bq) hk))); (case aO => exact (by refine sq ?_; exact Kd.S_mono HO_6.out (fun k_ hk => ⟨hk.1, fun e_ => hk.2 e_⟩))); (case aS => exact (Zfa bq)); (case aL => have := LMc11.out; omega); intro v114 w19 ho hb hg hat; rw [← Ny113.out] at ho; have n0_ := Zma (Kd.V_afterv (ok := (fun k_ => (P1_ k_ ∨ w.heap.size ≤ k_) ∧ some k_ ≠ (.slice Ao20 y110.length co20 : Value).ownBlock)) (by refine vq ?_; exact Zwa HO_1.out (fun _ hk => ⟨⟨hk.1.1, hk.2⟩, hk.1.2⟩)) hg hat); have n1_ := Zma (Kd.V_afterv (ok := (fun k_ => (P1_ k_ ∨ w.heap.size ≤ k_) ∧ some k_ ≠ (.slice Ao20 y110.length co20 : Value).ownBlock)) (by refine vq ?_; exact Zwa HO109.out (fun _ hk => ⟨⟨hk.1.1, hk.2⟩, hk.1.2⟩)) hg hat); have n2_ := Zma (hb); have n3_ := Zma (ho); clear HO_1 HO109 HB HO_6 HO112; have HO_1 := n0_; have HO109 := n1_; have HB := n2_; have HO115 := n3_; clear n0_ n1_ n2_ n3_ ho hb hg hat; have q21 : ((ji7) : Int) ≤ ((x1_1.length : Int) : Int) := Zg (by first | (with_reducible assumption) | assumption); obtain ⟨i021, hi021, _, hsz21, _⟩ := info_parts info5; have hroom21 : x1_1.length ≤ co17 := (Zjb HO_1.out).2.1; have hC21 : Kd.F (Kd.int .u8) _ _ Ao17 x1_1.length x1_1 := (Kd.V_at (base := w.heap.size) HO_1.out).2.2; have q021 : (0 : Int) ≤ ((ji7) : Int) := Zg (by first | (with_reducible assumption) | assumption); have hcut21 := cut_from (P := Try.prog) 28 5 .i64 Try.underlying28 hi021 1 hsz21 Ao17 x1_1.length co17 (ji7) q021 q21; have hr21 := Kd.F_cut (m := ((ji7) : Int).toNat) (c := co17) hC21 (by omega) hroom21; obtain ⟨A21, hA21⟩ : ∃ A1_, A1_ = (if co17 = ((ji7) : Int).toNat then Ao17 else (Ao17 : Option Addr).map (·.add (((ji7) : Int).toNat * 1))) := ⟨_, rfl⟩; obtain ⟨c21, hc21⟩ : ∃ c1_, c1_ = co17 - ((ji7) : Int).toNat := ⟨_, rfl⟩; have hy21 : y116.length = x1_1.length - ((ji7) : Int).toNat := (by rw [Ny116.out, Zha] <;> omega); rw [show (x1_1).drop ((ji7) : Int).toNat = y116 from Ny116.out.symm] at hr21; replace hr21 : Kd.F (Kd.int .u8) _ _ A21 y116.length y116 := (by rw [hA21]; exact hr21); rw [← hy21, ← hA21, ← hc21] at hcut21; have HO120 := Zma (show Kd.V (Kd.int .u8) 5 _ w.heap.size _ (.slice A21 y116.length c21) y116 from Kd.V_mk (by rw [hy21, hc21]; exact Nat.sub_le_sub_right hroom21 _) hr21); have HC120 := Zma (show y116.length ≤ c21 from by rw [hy21, hc21]; exact Nat.sub_le_sub_right hroom21 _); clear hr21 hC21 hroom21 hi021 hsz21 hc21; have KY21 := Zma hy21; have KA21 := Zma hA21; clear hy21 hA21; replace q21 := Zja q21))
    go_roundg k1
    case measure => have := HK1.out; omega
    case rel => exact ⟨(y116), (y113), (0), (((rd l0 x13_1) == 255)), (wrap64 (x13_1 + 1)), (by first | rfl | (simp; done) | (simp [*]; done)), (by first | rfl | (simp; done) | (simp [*]; done)), (by first | rfl | (simp; done) | (simp [*]; done)), H', ⟨by have := HK1.out; omega⟩, ⟨by refine vq ?_; exact Zwa HO120.out (fun _ hk => ⟨hk.1.1, hk.2⟩)⟩, ⟨sq HO115.out⟩, ⟨bq⟩⟩
   rw [if_neg c3] at H
   have c3b0 : decide (x13_1 < (l0.length : Int)) = false := Zna c3
   clear c3
   by_cases c22 : x8_1 = true
   ·subst c22
    have H1 : ((some (([] : List Int) : List Int)).bind fun y121 => (if 0 ≤ x7_1 then (if x7_1 ≤ (x1_1.length : Int) then ((some (x1_1.take (x7_1 : Int).toNat : List Int)).bind fun y124 => (if y121.length + y124.length < 140737488355328 then (if x6_1.length < 5864062014805 then (some ((x6_1 ++ [(y121 ++ y124)]), true)) else (none)) else (none))) else (none)) else (none))) = some (r1, r2) := by rw [if_pos rfl] at H; exact H
    clear H
    have H := H1
    clear H1
    obtain ⟨y121, hy121⟩ : ∃ y_ : List Int, y_ = (([] : List Int)) := ⟨_, rfl⟩
    replace H : (if 0 ≤ x7_1 then (if x7_1 ≤ (x1_1.length : Int) then ((some (x1_1.take (x7_1 : Int).toNat : List Int)).bind fun y124 => (if y121.length + y124.length < 140737488355328 then (if x6_1.length < 5864062014805 then (some ((x6_1 ++ [(y121 ++ y124)]), true)) else (none)) else (none))) else (none)) else (none)) = some (r1, r2) := by first | (rw [hy121]; with_reducible exact H) | (have H2_ := (Zsa _ _).symm.trans H; rw [hy121]; with_reducible exact H2_) | (have H2_ := (Zsa _ _).symm.trans H; with_reducible exact H2_) | with_reducible exact H | (rw [hy121]; exact H) | exact H
    have Ny121 := Zma hy121
    clear hy121
    by_cases c23 : 0 ≤ x7_1
    rotate_left
    ·rw [if_neg c23] at H
     exact absurd H (by simp)
    rw [if_pos c23] at H
    have c23b0 := Zja c23
    have c23b1 : decide (0 ≤ x7_1) = true := Zn c23
    clear c23
    by_cases c24 : x7_1 ≤ (x1_1.length : Int)
    rotate_left
    ·rw [if_neg c24] at H
     exact absurd H (by simp)
    rw [if_pos c24] at H
    have c24b0 := Zja c24
    have c24b1 : decide (x7_1 ≤ (x1_1.length : Int)) = true := Zn c24
    clear c24
    obtain ⟨y124, hy124⟩ : ∃ y_ : List Int, y_ = (x1_1.take (x7_1 : Int).toNat) := ⟨_, rfl⟩
    replace H : (if y121.length + y124.length < 140737488355328 then (if x6_1.length < 5864062014805 then (some ((x6_1 ++ [(y121 ++ y124)]), true)) else (none)) else (none)) = some (r1, r2) := by first | (rw [hy124]; with_reducible exact H) | (have H2_ := (Zsa _ _).symm.trans H; rw [hy124]; with_reducible exact H2_) | (have H2_ := (Zsa _ _).symm.trans H; with_reducible exact H2_) | with_reducible exact H | (rw [hy124]; exact H) | exact H
    have Ny124 := Zma hy124
    clear hy124
    by_cases c25 : y121.length + y124.length < 140737488355328
    rotate_left
    ·rw [if_neg c25] at H
     exact absurd H (by simp)
    rw [if_pos c25] at H
    have LMc25 := Zma c25
    clear c25
    obtain ⟨y129, hy129⟩ : ∃ y_ : List Int, y_ = (y121 ++ y124) := ⟨_, rfl⟩
    replace H : (if x6_1.length < 5864062014805 then (some ((x6_1 ++ [y129]), true)) else (none)) = some (r1, r2) := by first | (rw [hy129]; with_reducible exact H) | (have H2_ := (Zsa _ _).symm.trans H; rw [hy129]; with_reducible exact H2_) | (have H2_ := (Zsa _ _).symm.trans H; with_reducible exact H2_) | with_reducible exact H | (rw [hy129]; exact H) | exact H
    have Ny129 := Zma hy129
    clear hy129
    by_cases c26 : x6_1.length < 5864062014805
    rotate_left
    ·rw [if_neg c26] at H
     exact absurd H (by simp)
    rw [if_pos c26] at H
    have LMc26 := Zma c26
    clear c26
    obtain ⟨y132, hy132⟩ : ∃ y_ : List (List Int), y_ = (x6_1 ++ [y129]) := ⟨_, rfl⟩
    replace H : (some (y132, true)) = some (r1, r2) := by first | (rw [hy132]; with_reducible exact H) | (have H2_ := (Zsa _ _).symm.trans H; rw [hy132]; with_reducible exact H2_) | (have H2_ := (Zsa _ _).symm.trans H; with_reducible exact H2_) | with_reducible exact H | (rw [hy132]; exact H) | exact H
    have Ny132 := Zma hy132
    clear hy132
    simp only [Zib, Zhb] at H
    obtain ⟨rfl, rfl⟩ := H
    go_wp2_with (first | ((with_reducible refine gate_dst (N := 40) rfl ?_); refine Kd.R_lit (Kd.int .u8) _ 5 ?hg (N := 40) ?hd (xs := ([] : List Int)) (inner := []) (ok := fun _ => True) (okp := fun _ => True) ?hr ?hp (fun _ hk => hk) trivial (Below.refl _ _) (Zra _) (by simp) ?_; (case hd => rfl); (case hg => rfl); (case hr => first | (go_simp; done) | (go_simp; rfl)); (case hp => exact (Reps.none _ _)); intro v122 w27 ho28 hb hg_ hnew_; clear hg_ hnew_; (first | rw [← Ny121.out] at ho28 | (simp only [Int.reduceToNat] at ho28; rw [← Ny121.out] at ho28)); have n0_ := Zma (Kd.V_elder' (vq HO_1.out) (Kd.R_base ho28) hb); have n1_ := Zma (Kd.S_elder' (sq HO_6.out) (Kd.R_base ho28) hb); have n2_ := Zma (Zxa (Kd.R_newM (M := fun k_ => (w.heap.size ≤ k_)) ho28 (Zfa bq) (fun k_ h_ => h_)) (Zfa bq)); have n3_ := Zma (Zoa bq hb); clear HO_1 HO_6 HB; have HO_1 := n0_; have HO_6 := n1_; have HO123 := n2_; have HB := n3_; clear n0_ n1_ n2_ n3_ hb ho28; obtain ⟨Ao30, co30, eo30⟩ := Kd.V_slice HO_1.out; subst eo30; have q29 : (x7_1 : Int) ≤ ((x1_1.length : Int) : Int) := Zg (by first | (with_reducible assumption) | assumption); obtain ⟨i029, hi029, _, hsz29, _⟩ := info_parts info5; have hroom29 : x1_1.length ≤ co30 := (Zjb HO_1.out).2.1; have hC29 : Kd.F (Kd.int .u8) _ _ Ao30 x1_1.length x1_1 := (Kd.V_at (base := w.heap.size) HO_1.out).2.2; have hcut29 := cut_to3 (P := Try.prog) 28 5 .i64 .i64 Try.underlying28 hi029 Ao30 x1_1.length co30 x7_1 (Zg (by first | (with_reducible assumption) | assumption)) q29 hroom29; have hr29 := Kd.F_take (m := (x7_1 : Int).toNat) hC29 (by omega); have hy29 : y124.length = (x7_1 : Int).toNat := (by rw [Ny124.out, Zga]; omega); rw [← Ny124.out] at hr29; rw [← hy29] at hcut29; have HO128 := Zma (show Kd.V (Kd.int .u8) 5 _ w.heap.size _ (.slice Ao30 y124.length y124.length) y124 from Kd.V_mk (Zra _) hr29); have HC128 := Zma (Zra y124.length); clear hr29 hC29 hroom29 hi029 hsz29; have KY29 := Zma hy29; clear hy29; replace q29 := Zja q29) | ((with_reducible refine gate_builtin (b := .append) (xs := #[.tmp 40, .tmp 44]) rfl ?_); at_builtin; refine Kd.R_append_rows (Kd.int .u8) (w0 := w) w.heap.size rfl (.tmp 40) (.tmp 44) 28 5 (.int .u8 0) 1 rfl Try.underlying28 info5 rfl (by decide) (by omega) v122 y121 y124 _ _ _ (fun k_ => (w.heap.size ≤ k_)) (fun _ => False) rfl rfl ?aO ?aR (fun _ _ h => h) (fun _ h => h.elim) ?aF ?aB ?aS ?aL ?_; (case aR => exact cq ((Zjb HO128.out).2.2)); (case aB => exact bq); (case aF => exact (fun k_ hk => (Nat.le_trans (Zfa bq) hk))); (case aO => exact (by refine rq ?_; exact Kd.R_mono HO123.out (fun _ hk => hk.1))); (case aS => exact (Zfa bq)); (case aL => have := LMc25.out; omega); intro v130 w31 ho hb hg hat; rw [← Ny129.out] at ho; have n0_ := Zma (Kd.V_afterv (ok := (fun k_ => (P1_ k_ ∨ w.heap.size ≤ k_) ∧ some k_ ≠ (u6 : Value).ownBlock)) (vq HO_1.out) hg hat); have n1_ := Zma (Kd.S_after (ok := (fun k_ => (w.heap.size ≤ k_))) (sq HO_6.out) hg hat); have n2_ := Zma (Kd.V_afterv (ok := (fun k_ => (P1_ k_ ∨ w.heap.size ≤ k_) ∧ some k_ ≠ (u6 : Value).ownBlock)) (vq HO128.out) hg hat); have n3_ := Zma (hb); have n4_ := Zma (ho); clear HO_1 HO_6 HO128 HB HO123; have HO_1 := n0_; have HO_6 := n1_; have HO128 := n2_; have HB := n3_; have HO131 := n4_; clear n0_ n1_ n2_ n3_ n4_ ho hb hg hat; obtain ⟨Ao33, co33, eo33⟩ := Kd.R_slice HO131.out; subst eo33) | ((with_reducible refine gate_builtin (b := .append) (xs := #[.tmp 39, .tmp 46]) rfl ?_); at_builtin; refine Kd.S_append (Kd.slice 5 (Kd.int .u8)) (w0 := w) w.heap.size rfl (.tmp 39) (.tmp 46) 41 28 (.slice none 0 0) 24 rfl Try.underlying41 info28 rfl (by decide) (by omega) u6 x6_1 y129 [.slice Ao33 y129.length co33] (fun k_ => (w.heap.size ≤ k_)) (fun k_ => some k_ = (.slice Ao33 y129.length co33 : Value).ownBlock) rfl rfl ?aP (fun k_ hk_ => ((Kd.R_mono (ok' := fun k_ => ((fun k_ => (w.heap.size ≤ k_))) k_ ∧ some k_ ≠ (u6 : Value).ownBlock) (Kd.R_apart' (HO131.out) (Kd.S_typed HO_6.out) (by decide)) (fun k_ hk => ⟨hk.1, hk.2⟩))).1 k_ hk_.symm) ?aF ?aO ?aB ?aS ?aL ?_; (case aP => exact Kd.M_row (Kd.R_mono (Kd.R_tight rfl (Kd.R_mono (ok' := fun k_ => ((fun k_ => (w.heap.size ≤ k_))) k_ ∧ some k_ ≠ (u6 : Value).ownBlock) (Kd.R_apart' (HO131.out) (Kd.S_typed HO_6.out) (by decide)) (fun k_ hk => ⟨hk.1, hk.2⟩))) (fun _ h_ => h_))); (case aB => exact bq); (case aF => exact (fun k_ hk => (Nat.le_trans (Zfa bq) hk))); (case aO => exact (by refine sq ?_; exact Kd.S_mono HO_6.out (fun k_ hk => ⟨hk.1, fun e_ => hk.2 e_⟩))); (case aS => exact (Zfa bq)); (case aL => have := LMc26.out; omega); intro v133 w32 ho hb hg hat; rw [← Ny132.out] at ho; have n0_ := Zma (Kd.V_afterv (ok := (fun k_ => (P1_ k_ ∨ w.heap.size ≤ k_) ∧ some k_ ≠ (.slice Ao33 y129.length co33 : Value).ownBlock)) (by refine vq ?_; exact Zwa HO_1.out (fun _ hk => ⟨⟨hk.1.1, hk.2⟩, hk.1.2⟩)) hg hat); have n1_ := Zma (Kd.V_afterv (ok := (fun k_ => (P1_ k_ ∨ w.heap.size ≤ k_) ∧ some k_ ≠ (.slice Ao33 y129.length co33 : Value).ownBlock)) (by refine vq ?_; exact Zwa HO128.out (fun _ hk => ⟨⟨hk.1.1, hk.2⟩, hk.1.2⟩)) hg hat); have n2_ := Zma (hb); have n3_ := Zma (ho); clear HO_1 HO128 HB HO_6 HO131; have HO_1 := n0_; have HO128 := n1_; have HB := n2_; have HO134 := n3_; clear n0_ n1_ n2_ n3_ ho hb hg hat))
    go_ret2
    exact ⟨_, by first | rfl | (simp [errW_none, errW_some] <;> rfl) | (simp [*, errW_none, errW_some] <;> rfl), sq HO134.out, bq⟩
   replace c22 := Bool.eq_false_iff.mpr c22
   subst c22
   have H1 : (some (x6_1, false)) = some (r1, r2) := by rw [if_neg (show ¬ (false = true) by decide)] at H; exact H
   clear H
   have H := H1
   clear H1
   simp only [Zib, Zhb] at H
   obtain ⟨rfl, rfl⟩ := H
   go_wp2
   go_ret2
   exact ⟨_, by first | rfl | (simp [errW_none, errW_some] <;> rfl) | (simp [*, errW_none, errW_some] <;> rfl), sq HO_6.out, bq⟩

def page_parts.f (l b : List Int) : Option (List (List Int) × Bool) := if okB l ∧ l.length ≤ 255 ∧ sumL l ≤ b.length then some (partsGo l b 0 false) else none
theorem rd_drop (l : List Int) (j : Nat) (hj : j < l.length) : l.drop j = rd l (j : Int) :: l.drop (j + 1) := by
  rw [List.drop_eq_getElem_cons hj]
  unfold rd
  rw [Int.toNat_natCast, List.getD_eq_getElem?_getD, List.getElem?_eq_getElem hj]
  rfl
theorem page_parts.of {l b : List Int} {r : List (List Int) × Bool} (h : page_parts.f l b = some r) : ∃ k, page_parts_raw.f k l b = some r := by
  unfold page_parts.f at h
  split at h
  case isFalse => cases h
  case isTrue hs =>
    injection h with h
    subst h
    obtain ⟨hok, hl, hsum⟩ := hs
    refine Ev.rounds ?_
    unfold page_parts_raw.f
    have go : ∀ (d j n : Nat) (b : List Int) (out : List (List Int)) (o : Bool), j ≤ l.length → l.length - j = d → n ≤ 100000 → n + sumL (l.drop j) ≤ b.length → out.length ≤ j → n + 255 * (l.length - j) ≤ 65025 →
        Ev (fun k => page_parts_raw.l0 k b out (n : Int) o l (l.length : Int) (j : Int)) (out ++ (partsGo (l.drop j) b n o).1, (partsGo (l.drop j) b n o).2) := by
      intro d
      induction d with
      | zero =>
        intro j n b out o hj hd hn hx ho hz
        obtain rfl : j = l.length := by omega
        rw [List.drop_length] at hx ⊢
        rw [sumL] at hx
        rw [partsGo]
        cases o with
        | false =>
          rw [if_neg (by simp), List.append_nil]
          refine Ev.step (f := fun _ => some (out, false)) (fun k => ?_) (Ev.now _)
          simp only [page_parts_raw.l0]
          rw [if_neg (by omega), if_neg (by simp)]
        | true =>
          rw [if_pos rfl]
          refine Ev.step (f := fun _ => some (out ++ [b.take n], true)) (fun k => ?_) (Ev.now _)
          have h1 : ([] : List Int).length + (b.take n).length < 140737488355328 := by
            have : (b.take n).length ≤ n := by rw [Zga]; omega
            rw [List.length_nil]
            omega
          simp only [page_parts_raw.l0]
          rw [if_neg (by omega), if_pos trivial, Zsa, if_pos (by omega), if_pos (by omega), Int.toNat_natCast, Zsa, if_pos h1, if_pos (show out.length < 5864062014805 by omega), List.nil_append]
      | succ d ih =>
        intro j n b out o hj hd hn hx ho hz
        have hj1 : j < l.length := by omega
        have hr := rd_mem hok (j : Int) (by omega)
        rw [rd_drop l j hj1] at hx ⊢
        rw [sumL] at hx
        obtain ⟨x, hxx⟩ := Int.eq_ofNat_of_zero_le hr.1
        rw [hxx] at hx hr ⊢
        rw [Int.toNat_natCast] at hx
        have e2A : Aside0 (wrap64 ((j : Int) + 1) = ((j + 1 : Nat) : Int)) := ⟨wsucc j (by omega)⟩
        have e3A : Aside0 (wrap64 (x : Int) = (x : Int)) := ⟨wid x (by omega)⟩
        have e4A : Aside0 (wrap64 ((n : Int) + (x : Int)) = ((n + x : Nat) : Int)) := ⟨wadd n x (by omega)⟩
        rw [partsGo, Int.toNat_natCast]
        by_cases h255 : (x : Int) = 255
        · rw [if_pos h255]
          refine Ev.step (fun k => ?_) (ih (j + 1) (n + x) b out true (by omega) (by omega) (by omega) (by omega) (by omega) (by omega))
          simp only [page_parts_raw.l0]
          rw [if_pos (by omega), if_pos (by omega), if_pos (by omega), hxx, if_pos h255, e3A.out, e4A.out, e2A.out, beq_iff_eq.mpr h255]
        · rw [if_neg h255]
          have H := ih (j + 1) 0 (b.drop (n + x)) (out ++ [b.take (n + x)]) false (by omega) (by omega) (by omega) (by rw [Zha]; omega) (by rw [List.length_append, List.length_singleton]; omega) (by omega)
          rw [List.append_assoc] at H
          refine Ev.step (fun k => ?_) H
          have h1 : ([] : List Int).length + (b.take (n + x)).length < 140737488355328 := by
            have : (b.take (n + x)).length ≤ n + x := by rw [Zga]; omega
            rw [List.length_nil]
            omega
          simp only [page_parts_raw.l0]
          rw [if_pos (by omega), if_pos (by omega), if_pos (by omega), hxx, if_neg h255, e3A.out, e4A.out, e2A.out, Zsa, if_pos (by omega), if_pos (by omega), Int.toNat_natCast, Zsa, if_pos h1, if_pos (show out.length < 5864062014805 by omega), List.nil_append, beq_eq_false_iff_ne.mpr h255]
          rfl
    have := go l.length 0 0 b [] false (by omega) (by omega) (by omega) (by rw [List.drop_zero]; omega) (by simp) (by omega)
    rw [List.drop_zero, List.nil_append] at this
    exact this
theorem page_parts.calls (A0 : Option Addr) (c0 : Nat) (l0 : List Int) (P1_ : Nat → Prop) (A1 : Option Addr) (c1 : Nat) (l1 : List Int) (r1 : List (List Int)) (r2 : Bool) (w : World) (hr0 : Kd.C (Kd.int .u8) w A0 l0.length l0) (hc0 : l0.length ≤ c0) (hs1 : Kd.V (Kd.int .u8) 5 w w.heap.size (fun k_ => P1_ k_) (.slice A1 l1.length c1) l1) (h : page_parts.f l0 l1 = some (r1, r2)) :
  Calls Try.prog 67 #[.slice A0 l0.length c0, .slice A1 l1.length c1] w fun e w' => ∃ v0_ : Value, e = .returned (.tuple #[v0_, .bool r2]) ∧ Kd.S (Kd.slice 5 (Kd.int .u8)) 28 w' w.heap.size (fun k_ => (w.heap.size ≤ k_)) v0_ r1 ∧ Below w.heap.size w w' := by
  obtain ⟨k, hk⟩ := page_parts.of h
  exact page_parts_raw.calls k A0 c0 l0 P1_ A1 c1 l1 r1 r2 w hr0 hc0 hs1 hk

end Go.Proofs.Yteoclecadpapfaa.G
