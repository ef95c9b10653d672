import Derived.Test.YtgnfjahkhhkmoaaU13
import Derived.Test.YtgnfjahkhhkmoaaU8
namespace Go.Proofs.Ytgnfjahkhhkmoaa.V
open Go
set_option linter.unusedSimpArgs false
set_option linter.unusedVariables false

theorem sizes_small : ∀ {l : List Ty} {B : Nat}, (∀ t, t ∈ l → t.size ≤ B) → Ty.sizes l ≤ l.length * B
  | [], B, _ => by simp [Ty.sizes]
  | t :: l, B, h => by
    have h1 := h t (by simp)
    have h2 := sizes_small (l := l) (B := B) (fun u hu => h u (List.mem_cons_of_mem _ hu))
    simp only [Ty.sizes, List.length_cons, Nat.succ_mul]; omega
theorem typsOk_sizes {l : List Ty} (h : typsOk l = true) : l.length ≤ 4 ∧ Ty.sizes l ≤ 1000 := by
  unfold typsOk at h
  rw [Bool.and_eq_true, decide_eq_true_eq] at h
  obtain ⟨h1, h2⟩ := h
  have hl : l.length ≤ 4 := by omega
  rw [List.take_of_length_le (by omega)] at h1
  have := sizes_small (l := l) (B := 250) (fun t ht => by
    have := typF_ok (n := 250) (by decide) (List.all_eq_true.mp h1 t ht)
    omega)
  refine ⟨hl, ?_⟩
  have h3 : l.length * 250 ≤ 4 * 250 := Nat.mul_le_mul_right _ hl
  omega
def fewM (s : MS) : Prop := s.types.length ≤ 101 ∧ smallT s.types
theorem grow_few {s : MS} {n : Nat} (h : fewM s) (hn : n ≤ 100) : fewM (grow s n) := by
  refine ⟨?_, fun t ht => ?_⟩
  · have := h.1
    simp only [grow, List.length_append, List.length_replicate]; omega
  · simp only [grow, List.mem_append, List.mem_replicate] at ht
    rcases ht with ht | ⟨_, rfl⟩
    · exact h.2 t ht
    · simp [unitT, Ty.size, Ty.sizes]
mutual
theorem matchF_few : ∀ (t u : Ty) (s : MS), fewM s → u.size ≤ 1000000 → fewM (matchF s t u).1
  | .mk k n l, .mk k' n' l', s, hs, hu => by
    simp only [matchF]
    split
    · split
      · split
        · exact matchL_few l l' s hs (by simp only [Ty.size] at hu; omega)
        · exact hs
      · exact hs
    · split
      · exact hs
      · rename_i hr
        have hr' : (bif decide (n < 0) then true else decide (n > 100)) = false := by simpa using hr
        obtain ⟨hn0, hn1⟩ := or_no hr'
        simp only [decide_eq_false_iff_not] at hn0 hn1
        have hg := grow_few (n := n.toNat) hs (by omega)
        split
        · exact hg
        · refine ⟨by simp only [setM, List.length_set]; exact hg.1, fun t ht => ?_⟩
          rcases List.mem_or_eq_of_mem_set ht with ht | rfl
          · exact hg.2 t ht
          · exact hu
theorem matchL_few : ∀ (l m : List Ty) (s : MS), fewM s → Ty.sizes m ≤ 1000000 → fewM (matchL s l m).1
  | [], _, s, hs, _ => by simp only [matchL]; exact hs
  | _ :: _, [], s, hs, _ => by simp only [matchL]; exact hs
  | a :: l, b :: m, s, hs, hm => by
    simp only [Ty.sizes] at hm
    have h1 := matchF_few a b s hs (by omega)
    simp only [matchL]
    split
    · exact matchL_few l m _ h1 (by omega)
    · exact h1
end
/-- What the guards let in. -/
def mOk (t u : Ty) (sg : List Ty) : Prop := (typF t 250).1 = true ∧ (typF u 250).1 = true ∧ typsOk sg = true ∧ t.size ≤ 40
theorem guards {a b c : Bool} {n : Nat} (h : (bif (bif (bif (!a) then true else !b) then true else !c) then true else decide ((n : Int) > 40)) = false) : a = true ∧ b = true ∧ c = true ∧ n ≤ 40 := by
  cases a <;> cases b <;> cases c <;> simp_all
  omega
set_option maxRecDepth 20000 in
theorem matched_of (k n : Int) (l : List Ty) (u : Ty) (sg : List Ty) (tt b : Bool) (ml : List Ty) (w : Ty)
    (hMt : mOk (.mk k n l) u sg → PCalls Try.prog 12 [.agg (Ty.mk k n l).enc, .agg u.enc] (.tup [.sl tt ml.length (Ty.encs ml), .v (.bool b)]))
    (hSb : mOk (.mk k n l) u sg → b = true → PCalls Try.prog 14 [.agg (Ty.mk k n l).enc, .sl tt ml.length (Ty.encs ml)] (.agg u.enc))
    (hMs : mOk (.mk k n l) u sg → varsF (.mk k n l) sg.length = true → ∃ t2 l2, PCalls Try.prog 12 [.agg (Ty.mk k n l).enc, .agg (substT (.mk k n l) sg).enc] (.tup [.sl t2 (List.length l2) (Ty.encs l2), .v (.bool true)])) :
    PCalls Try.prog 4 [.agg (Ty.mk k n l).enc, .agg u.enc, .sl false sg.length (Ty.encs sg)] (.v (.bool true)) := by
  rcases u with ⟨k', n', l'⟩
  refine calls_body td_ok Try.func4 rfl rfl rfl ?_
  refine AWP_seq ?_
  refine AWP_region ?_
  refine st_box td_ok rfl rfl rfl rfl rfl rfl (by ((repeat' with_reducible apply And.intro) <;> exact rfl)) fun r3 hr3 => ?_
  refine st_box td_ok rfl rfl rfl rfl rfl rfl (by ((repeat' with_reducible apply And.intro) <;> exact rfl)) fun r4 hr4 => ?_
  refine st td_ok rfl rfl rfl rfl (r := .v _) rfl trivial ?_
  refine AOps_nil ?_
  refine qn ?_
  refine AWP_seq ?_
  refine AWP_seq ?_
  refine AWP_region ?_
  refine st_own (r := .agg [.v _, .v _, _]) td_ok rfl rfl rfl rfl rfl rfl rfl (XH.put_ne (by (first | assumption | exact Ne.symm (by assumption) | (intro h; simp [XH.put, h] at *; done))) XH.put_same) (Nat.le_of_ble_eq_true rfl) rfl  ?_
  refine st_pcall rfl rfl rfl rfl rfl rfl rfl ⟨_, rfl, rfl, rfl⟩ (Type_c (Ty.mk k n l)) ?_
  refine st td_ok rfl rfl rfl rfl (r := .v _) rfl trivial ?_
  refine st td_ok rfl rfl rfl rfl (r := .v _) rfl trivial ?_
  refine sgk_own (r := .agg [.v _, .v _, _]) td_ok rfl rfl rfl rfl rfl rfl rfl rfl rfl XH.put_same (fun hg => by (repeat' (first | exact trivial | exact hg | exact (Bool.and_eq_true_iff.mp hg).1 | apply And.intro))) (Nat.le_of_ble_eq_true rfl) rfl ?_
  refine stg_call rfl rfl rfl rfl rfl rfl rfl rfl (fun hg => ⟨by (repeat' (first | exact trivial | exact hg | exact (Bool.and_eq_true_iff.mp hg).1 | apply And.intro)), rfl, ⟨_, rfl, rfl, rfl⟩, (Type_c (Ty.mk k' n' l'))⟩) ?_
  (refine sgk0 td_ok rfl rfl rfl rfl rfl rfl (r := .v _) rfl ?_ ?_; · exact fun hg => ⟨by (repeat' (first | exact trivial | exact hg | exact (Bool.and_eq_true_iff.mp hg).1 | apply And.intro)), by exact trivial⟩)
  (refine st td_ok rfl rfl rfl rfl (r := .v _) rfl ?_ ?_; · first | (simp_all; done) | ((repeat' with_reducible apply And.intro) <;> with_reducible exact trivial))
  refine st td_ok rfl rfl rfl rfl (r := .v _) rfl trivial ?_
  (refine sgk0 td_ok rfl rfl rfl rfl rfl rfl (r := .sl _ _ _) rfl ?_ ?_; · exact fun hg => ⟨by (repeat' (first | exact trivial | exact hg | exact (Bool.and_eq_true_iff.mp hg).1 | apply And.intro)), by exact trivial⟩)
  refine stg_call rfl rfl rfl rfl rfl rfl rfl rfl (fun hg => ⟨by (repeat' (first | exact trivial | exact hg | exact (Bool.and_eq_true_iff.mp hg).1 | apply And.intro)), rfl, ⟨_, rfl, rfl, rfl⟩, (Types_c sg false)⟩) ?_
  (refine sgk0 td_ok rfl rfl rfl rfl rfl rfl (r := .v _) rfl ?_ ?_; · exact fun hg => ⟨by (repeat' (first | exact trivial | exact hg | exact (Bool.and_eq_true_iff.mp hg).1 | apply And.intro)), by exact trivial⟩)
  (refine st td_ok rfl rfl rfl rfl (r := .v _) rfl ?_ ?_; · first | (simp_all; done) | ((repeat' with_reducible apply And.intro) <;> with_reducible exact trivial))
  refine st td_ok rfl rfl rfl rfl (r := .v _) rfl trivial ?_
  refine sgk_own (r := .agg [.v _, .v _, _]) td_ok rfl rfl rfl rfl rfl rfl rfl rfl rfl (XH.put_ne (by (first | assumption | exact Ne.symm (by assumption) | (intro h; simp [XH.put, h] at *; done))) XH.put_same) (fun hg => by (repeat' (first | exact trivial | exact hg | exact (Bool.and_eq_true_iff.mp hg).1 | apply And.intro))) (Nat.le_of_ble_eq_true rfl) rfl ?_
  refine stg_call rfl rfl rfl rfl rfl rfl rfl rfl (fun hg => ⟨by (repeat' (first | exact trivial | exact hg | exact (Bool.and_eq_true_iff.mp hg).1 | apply And.intro)), rfl, ⟨_, rfl, rfl, rfl⟩, (Size_c _ (Ty.mk k n l) (Nat.lt_succ_self _) (by
    have h1 := (or_no (or_no (guard_no hg)).1).1
    have h2 := typF_ok (t := Ty.mk k n l) (n := 250) (by decide) (by simpa using h1)
    omega))⟩) ?_
  (refine sgk0 td_ok rfl rfl rfl rfl rfl rfl (r := .v _) rfl ?_ ?_; · exact fun hg => ⟨by (repeat' (first | exact trivial | exact hg | exact (Bool.and_eq_true_iff.mp hg).1 | apply And.intro)), by exact trivial⟩)
  (refine st td_ok rfl rfl rfl rfl (r := .v _) rfl ?_ ?_; · first | (simp_all; done) | ((repeat' with_reducible apply And.intro) <;> with_reducible exact trivial))
  refine AOps_nil ?_
  refine qn ?_
  refine AWP_cond rfl rfl (fun h0 => ?_) (fun h0 => ?_)
  ·
    refine AWP_seq ?_
    refine AWP_region ?_
    refine st td_ok rfl rfl rfl rfl (r := .v _) rfl trivial ?_
    refine AOps_nil ?_
    refine qn ?_
    refine AWP_ret ?_
    refine qr ?_
    refine ⟨_, _, _, _, rfl, trivial, GS.forget _ _, ?_⟩
    first | show AV.v _ = _ | show AV.tup _ = _ | show AV.sl _ _ _ = _ | show AV.agg _ = _ | skip
    rfl
  ·
    obtain ⟨g1, g2, g3, g4⟩ := guards h0
    have hok : mOk (.mk k n l) (.mk k' n' l') sg := ⟨g1, g2, g3, g4⟩
    have hm := hMt hok
    have hsb := hSb hok
    have hms := hMs hok
    have hus := typF_ok (t := Ty.mk k' n' l') (n := 250) (by decide) g2
    obtain ⟨hg1, hg2⟩ := typsOk_sizes g3
    clear hMt hSb hMs h0
    refine AWP_skip ?_
    refine qn ?_
    refine AWP_seq ?_
    refine AWP_seq ?_
    refine AWP_region ?_
    refine st_own (r := .agg [.v _, .v _, _]) td_ok rfl rfl rfl rfl rfl rfl rfl (XH.put_ne (by (first | assumption | exact Ne.symm (by assumption) | (intro h; simp [XH.put, h] at *; done))) XH.put_same) (Nat.le_of_ble_eq_true rfl) rfl  ?_
    refine st_own (r := .agg [.v _, .v _, _]) td_ok rfl rfl rfl rfl rfl rfl rfl XH.put_same (Nat.le_of_ble_eq_true rfl) rfl  ?_
    refine st_pcall rfl rfl rfl rfl rfl rfl rfl ⟨_, rfl, rfl, rfl⟩ hm ?_
    refine st td_ok rfl rfl rfl rfl (r := .tup _) rfl trivial ?_
    refine st td_ok rfl rfl rfl rfl (r := .sl _ _ _) rfl trivial ?_
    refine st td_ok rfl rfl rfl rfl (r := .v _) rfl trivial ?_
    refine st td_ok rfl rfl rfl rfl (r := .sl _ _ _) rfl trivial ?_
    refine st td_ok rfl rfl rfl rfl (r := .v _) rfl trivial ?_
    refine AOps_nil ?_
    refine qn ?_
    refine AWP_seq ?_
    refine AWP_drawn rfl rfl rfl rfl ?_
    refine es td_ok rfl rfl rfl (r := .v _) rfl trivial (rfl) ?_
    refine es td_ok rfl rfl rfl (r := .v _) rfl trivial (rfl) ?_
    refine esk_own (r := .agg [.v _, .v _, _]) td_ok rfl rfl rfl rfl rfl rfl rfl (XH.put_ne (by (first | assumption | exact Ne.symm (by assumption) | (intro h; simp [XH.put, h] at *; done))) XH.put_same) (fun hg => by (repeat' (first | exact trivial | exact hg | exact (Bool.and_eq_true_iff.mp hg).1 | apply And.intro))) (Nat.le_of_ble_eq_true rfl) rfl ?_
    (refine esk0 td_ok rfl rfl rfl rfl (r := .sl _ _ _) rfl ?_ ?_; · exact fun hg => ⟨by (repeat' (first | exact trivial | exact hg | exact (Bool.and_eq_true_iff.mp hg).1 | apply And.intro)), by exact trivial⟩)
    refine esg_call rfl rfl rfl rfl rfl rfl (fun hg => ⟨by (repeat' (first | exact trivial | exact hg | exact (Bool.and_eq_true_iff.mp hg).1 | apply And.intro)), rfl, ⟨_, rfl, rfl, rfl⟩, (hsb (by simpa using hg))⟩) ?_
    refine esk_own (r := .agg [.v _, .v _, _]) td_ok rfl rfl rfl rfl rfl rfl rfl XH.put_same (fun hg => by (repeat' (first | exact trivial | exact hg | exact (Bool.and_eq_true_iff.mp hg).1 | apply And.intro))) (Nat.le_of_ble_eq_true rfl) rfl ?_
    refine esg_call rfl rfl rfl rfl rfl rfl (fun hg => ⟨by (repeat' (first | exact trivial | exact hg | exact (Bool.and_eq_true_iff.mp hg).1 | apply And.intro)), rfl, ⟨_, rfl, rfl, rfl⟩, (SameType_c _ (Ty.mk k' n' l') (Ty.mk k' n' l') (Nat.lt_succ_self _) (by omega))⟩) ?_
    (refine esk0 td_ok rfl rfl rfl rfl (r := .v _) rfl ?_ ?_; · exact fun hg => ⟨by (repeat' (first | exact trivial | exact hg | exact (Bool.and_eq_true_iff.mp hg).1 | apply And.intro)), by exact trivial⟩)
    (refine es td_ok rfl rfl rfl (r := .v _) rfl ?_ (rfl) ?_; · exact (fun h => h))
    refine AOps_nil ?_
    refine qn ?_
    refine AWP_cond rfl rfl (fun h1 => ?_) (fun h1 => ?_)
    ·
      (exfalso; rw [tyEq_refl] at h1; cases b <;> simp at h1)
    ·
      refine AWP_skip ?_
      refine qn ?_
      refine AWP_seq ?_
      refine AWP_seq ?_
      refine AWP_region ?_
      refine st_own (r := .agg [.v _, .v _, _]) td_ok rfl rfl rfl rfl rfl rfl rfl (XH.put_ne (by (first | assumption | exact Ne.symm (by assumption) | (intro h; simp [XH.put, h] at *; done))) XH.put_same) (Nat.le_of_ble_eq_true rfl) rfl  ?_
      refine st td_ok rfl rfl rfl rfl (r := .sl _ _ _) rfl trivial ?_
      refine st td_ok rfl rfl rfl rfl (r := .v _) rfl trivial ?_
      refine st_pcall rfl rfl rfl rfl rfl rfl rfl ⟨_, rfl, rfl, rfl⟩ (vars_c _ (Ty.mk k n l) sg.length (Nat.lt_succ_self _) (by omega)) ?_
      refine AOps_nil ?_
      refine qn ?_
      refine AWP_cond rfl rfl (fun h2 => ?_) (fun h2 => ?_)
      ·
        obtain ⟨t2, l2, hm2⟩ := hms h2
        refine AWP_seq ?_
        refine AWP_drawn rfl rfl rfl rfl ?_
        refine es_own (r := .agg [.v _, .v _, _]) td_ok rfl rfl rfl rfl rfl rfl (XH.put_ne (by (first | assumption | exact Ne.symm (by assumption) | (intro h; simp [XH.put, h] at *; done))) XH.put_same) (Nat.le_of_ble_eq_true rfl) rfl ?_
        refine es_own (r := .agg [.v _, .v _, _]) td_ok rfl rfl rfl rfl rfl rfl (XH.put_ne (by (first | assumption | exact Ne.symm (by assumption) | (intro h; simp [XH.put, h] at *; done))) XH.put_same) (Nat.le_of_ble_eq_true rfl) rfl ?_
        refine es td_ok rfl rfl rfl (r := .sl _ _ _) rfl trivial (rfl) ?_
        refine es_call rfl rfl rfl rfl rfl rfl ⟨_, rfl, rfl, rfl⟩ (Subst_c (Ty.mk k n l) sg false (by omega) (by omega)) ?_
        refine es_call rfl rfl rfl rfl rfl rfl ⟨_, rfl, rfl, rfl⟩ hm2 ?_
        refine es td_ok rfl rfl rfl (r := .tup _) rfl trivial (rfl) ?_
        refine es td_ok rfl rfl rfl (r := .sl _ _ _) rfl trivial (rfl) ?_
        refine es td_ok rfl rfl rfl (r := .v _) rfl trivial (rfl) ?_
        refine es td_ok rfl rfl rfl (r := .sl _ _ _) rfl trivial (rfl) ?_
        refine es td_ok rfl rfl rfl (r := .v _) rfl trivial (rfl) ?_
        refine AOps_nil ?_
        refine qn ?_
        refine AWP_seq ?_
        refine AWP_region ?_
        refine st td_ok rfl rfl rfl rfl (r := .v _) rfl trivial ?_
        refine st td_ok rfl rfl rfl rfl (r := .v _) rfl trivial ?_
        refine AOps_nil ?_
        refine qn ?_
        refine AWP_cond rfl rfl (fun h3 => ?_) (fun h3 => ?_)
        ·
          (exfalso; simp at h3)
        ·
          refine AWP_skip ?_
          refine qn ?_
          refine AWP_seq ?_
          refine AWP_region ?_
          (refine st td_ok rfl rfl rfl rfl (r := .agg [.v _, .v _, _]) rfl ?_ ?_; · ((repeat' with_reducible apply And.intro) <;> (first | with_reducible exact trivial | exact rfl | exact Nat.le_of_ble_eq_true rfl)))
          refine st_pcall rfl rfl rfl rfl rfl rfl rfl ⟨_, rfl, rfl, rfl⟩ Ground1_c ?_
          refine st td_ok rfl rfl rfl rfl (r := .v _) rfl trivial ?_
          refine AOps_nil ?_
          refine qn ?_
          refine AWP_ret ?_
          refine ⟨_, _, _, _, rfl, trivial, GS.forget _ _, ?_⟩
          first | show AV.v _ = _ | show AV.tup _ = _ | show AV.sl _ _ _ = _ | show AV.agg _ = _ | skip
          rfl
      ·
        refine AWP_skip ?_
        refine qn ?_
        refine AWP_seq ?_
        refine AWP_region ?_
        (refine st td_ok rfl rfl rfl rfl (r := .agg [.v _, .v _, _]) rfl ?_ ?_; · ((repeat' with_reducible apply And.intro) <;> (first | with_reducible exact trivial | exact rfl | exact Nat.le_of_ble_eq_true rfl)))
        refine st_pcall rfl rfl rfl rfl rfl rfl rfl ⟨_, rfl, rfl, rfl⟩ Ground1_c ?_
        refine st td_ok rfl rfl rfl rfl (r := .v _) rfl trivial ?_
        refine AOps_nil ?_
        refine qn ?_
        refine AWP_ret ?_
        refine ⟨_, _, _, _, rfl, trivial, GS.forget _ _, ?_⟩
        first | show AV.v _ = _ | show AV.tup _ = _ | show AV.sl _ _ _ = _ | show AV.agg _ = _ | skip
        rfl
theorem matched_c (t u : Ty) (sg : List Ty) : PCalls Try.prog 4 [.agg t.enc, .agg u.enc, .sl false sg.length (Ty.encs sg)] (.v (.bool true)) := by
  rcases t with ⟨k, n, l⟩
  have hsz : mOk (.mk k n l) u sg → (Ty.mk k n l).size ≤ 1000000 ∧ u.size ≤ 1000000 ∧ (substT (.mk k n l) sg).size ≤ 1000000 ∧ sg.length ≤ 100 := by
    rintro ⟨h1, h2, h3, h4⟩
    have := typF_ok (t := u) (n := 250) (by decide) h2
    obtain ⟨g1, g2⟩ := typsOk_sizes h3
    have g3 := substT_size sg (.mk k n l)
    have g4 : (Ty.mk k n l).size * (1 + Ty.sizes sg) ≤ 40 * 1001 := Nat.mul_le_mul h4 (by omega)
    exact ⟨by omega, by omega, by omega, by omega⟩
  have hMs : mOk (.mk k n l) u sg → varsF (.mk k n l) sg.length = true → ∃ t2 l2, PCalls Try.prog 12 [.agg (Ty.mk k n l).enc, .agg (substT (.mk k n l) sg).enc] (.tup [.sl t2 (List.length l2) (Ty.encs l2), .v (.bool true)]) := by
    intro hok hv
    obtain ⟨s1, s2, s3, s4⟩ := hsz hok
    exact ⟨_, _, Match_yes s1 s3 (match_full sg s4 (.mk k n l) m0 hv rfl (fun i hi => absurd hi (by simp [m0]))).1⟩
  cases hm : (matchF m0 (.mk k n l) u).2 with
  | true =>
    refine matched_of k n l u sg false true (matchF m0 (.mk k n l) u).1.types u (fun hok => ?_) (fun hok _ => ?_) hMs
    · obtain ⟨s1, s2, _⟩ := hsz hok
      exact Match_yes s1 s2 hm
    · obtain ⟨s1, s2, _⟩ := hsz hok
      obtain ⟨_, g1, g2⟩ := match_sound (.mk k n l) u m0 (matchF m0 (.mk k n l) u).1 rfl (Prod.ext rfl hm)
      have e := g2 _ (Ext.refl _) g1
      obtain ⟨f1, f2⟩ := matchF_few (.mk k n l) u m0 ⟨by decide, fun t ht => absurd ht (by simp [m0])⟩ s2
      have h2 := sizes_small f2
      have h3 : (matchF m0 (.mk k n l) u).1.types.length * 1000000 ≤ 101 * 1000000 := Nat.mul_le_mul_right _ f1
      have := Subst_c (.mk k n l) (matchF m0 (.mk k n l) u).1.types false (by omega) (by omega)
      rw [e] at this
      exact this
  | false =>
    exact matched_of k n l u sg true false [] u (fun hok => Match_no (hsz hok).1 (hsz hok).2.1 hm) (fun _ h => absurd h (by simp)) hMs
end Go.Proofs.Ytgnfjahkhhkmoaa.V
