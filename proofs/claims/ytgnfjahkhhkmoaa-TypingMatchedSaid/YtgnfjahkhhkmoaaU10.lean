import Derived.Test.YtgnfjahkhhkmoaaU4
import Derived.Test.YtgnfjahkhhkmoaaVCall
import Derived.KernelRfl
namespace Go.Proofs.Ytgnfjahkhhkmoaa.V
open Go
set_option linter.unusedSimpArgs false
set_option linter.unusedVariables false

/-- A step after another, as long as each says yes. -/
def foldF {σ : Type} (step : σ → Ty → Ty → σ × Bool) : σ → List Ty → List Ty → σ × Bool
  | s, a :: l, b :: m => if (step s a b).2 = true then foldF step (step s a b).1 l m else ((step s a b).1, false)
  | s, [], _ => (s, true)
  | s, _ :: _, [] => (s, true)
def eqF {σ : Type} (step : σ → Ty → Ty → σ × Bool) (s : σ) (l m : List Ty) : σ × Bool := if l.length = m.length then foldF step s l m else (s, false)
theorem foldF_step {σ : Type} {step : σ → Ty → Ty → σ × Bool} {s : σ} {l m : List Ty} {j : Nat} (h : j < l.length) (h2 : j < m.length) : foldF step s (l.drop j) (m.drop j) = if (step s (l.getD j ty0) (m.getD j ty0)).2 = true then foldF step (step s (l.getD j ty0) (m.getD j ty0)).1 (l.drop (j + 1)) (m.drop (j + 1)) else ((step s (l.getD j ty0) (m.getD j ty0)).1, false) := by
  simp only [List.getD_eq_getElem?_getD]
  rw [List.getElem?_eq_getElem h, List.getElem?_eq_getElem h2, List.drop_eq_getElem_cons h, List.drop_eq_getElem_cons h2]
  rfl
theorem EqualFunc_of {σ : Type} (I : XH → σ → Prop) (hput : ∀ X s r o, I X s → X r = none → I (X.put r o) s) (step : σ → Ty → Ty → σ × Bool) (f : FuncId) (fi cp : List AV) (l m : List Ty) (ta tb : Bool) (hl : l.length ≤ 1000000000) (hf : FOk Try.prog f)
    (hstep : ∀ j X s, j < l.length → j < m.length → I X s → ACalls Try.prog f (fi ++ [.agg (l.getD j ty0).enc, .agg (m.getD j ty0).enc] ++ cp) X (fun av X' => ∃ b, av = .v (.bool b) ∧ b = (step s (l.getD j ty0) (m.getD j ty0)).2 ∧ I X' (step s (l.getD j ty0) (m.getD j ty0)).1)) (X : XH) (s : σ) (hI : I X s) :
    ACalls Try.prog 25 [.sl ta l.length (Ty.encs l), .sl tb m.length (Ty.encs m), .clo (.func f) fi cp] X (fun av X' => ∃ b, av = .v (.bool b) ∧ b = (eqF step s l m).2 ∧ I X' (eqF step s l m).1) := by
  refine calls_body td_ok Try.func25 rfl rfl rfl ?_
  refine AWP_seq ?_
  refine AWP_region ?_
  refine st td_ok rfl rfl rfl rfl (r := .v _) rfl trivial ?_
  refine AOps_nil ?_
  refine qn ?_
  refine AWP_seq ?_
  refine AWP_seq ?_
  refine AWP_region ?_
  refine st td_ok rfl rfl rfl rfl (r := .sl _ _ _) rfl trivial ?_
  refine st td_ok rfl rfl rfl rfl (r := .v _) rfl trivial ?_
  refine st td_ok rfl rfl rfl rfl (r := .sl _ _ _) rfl trivial ?_
  refine st td_ok rfl rfl rfl rfl (r := .v _) rfl trivial ?_
  refine st td_ok rfl rfl rfl rfl (r := .v _) rfl trivial ?_
  refine AOps_nil ?_
  refine qn ?_
  refine AWP_cond rfl rfl (fun h0 => ?_) (fun h0 => ?_)
  ·
    have hne : ¬ l.length = m.length := by simp only [bne_iff_ne, ne_eq] at h0; omega
    have hF : eqF step s l m = (s, false) := by unfold eqF; rw [if_neg hne]
    refine AWP_seq ?_
    refine AWP_region ?_
    refine st td_ok rfl rfl rfl rfl (r := .v _) rfl trivial ?_
    refine AOps_nil ?_
    refine qn ?_
    refine AWP_ret ?_
    refine qr ?_
    refine ⟨_, _, _, _, rfl, trivial, (GS.refl _ _), ?_⟩
    first | show AV.v _ = _ | show AV.tup _ = _ | show AV.sl _ _ _ = _ | show AV.agg _ = _ | skip
    exact ⟨_, rfl, by rw [hF], by rw [hF]; exact hI⟩
  ·
    have hlm : l.length = m.length := by simp only [bne_eq_false_iff_eq] at h0; omega
    have hF : eqF step s l m = foldF step s l m := by unfold eqF; rw [if_pos hlm]
    refine AWP_skip ?_
    refine qn ?_
    refine AWP_seq ?_
    refine AWP_seq ?_
    refine AWP_region ?_
    refine st td_ok rfl rfl rfl rfl (r := .sl _ _ _) rfl trivial ?_
    refine st td_ok rfl rfl rfl rfl (r := .v _) rfl trivial ?_
    refine st td_ok rfl rfl rfl rfl (r := .v _) rfl trivial ?_
    refine AOps_nil ?_
    refine qn ?_
    refine AWP_block ?_
    refine AWP_for (fun (x : Nat × σ) => [(1, .sl tb m.length (Ty.encs m)), (2, .clo (.func f) fi cp), (15, .sl ta l.length (Ty.encs l)), (16, .v (.int .i64 l.length)), (17, .v (.int .i64 x.1))]) (fun x X => I X x.2 ∧ x.1 ≤ l.length ∧ foldF step x.2 (l.drop x.1) (m.drop x.1) = foldF step s l m) (fun x => l.length - x.1) (0, s) ⟨by (repeat' (first | exact rfl | exact trivial | apply And.intro)), ⟨hI, Nat.zero_le _, rfl⟩⟩ ?_
    rintro x X' ⟨hI', hj, hq⟩
    refine AWP_seq ?_
    refine AWP_region ?_
    refine st td_ok rfl rfl rfl rfl (r := .v _) rfl trivial ?_
    refine AOps_nil ?_
    refine qn ?_
    refine AWP_seq ?_
    refine AWP_cond rfl rfl (fun h1 => ?_) (fun h1 => ?_)
    ·
      refine AWP_skip ?_
      refine qn ?_
      refine AWP_seq ?_
      refine AWP_block ?_
      refine AWP_seq ?_
      have hlt : x.1 < l.length := Int.ofNat_lt.mp (of_decide_eq_true h1)
      have hlt2 : x.1 < m.length := by omega
      have hfs := foldF_step (step := step) (s := x.2) hlt hlt2
      have hst := fun X hX => hstep x.1 X x.2 hlt hlt2 hX
      obtain ⟨⟨k2, n2, l2⟩, hel⟩ : ∃ t, l.getD x.1 ty0 = t := ⟨_, rfl⟩
      obtain ⟨⟨k3, n3, l3⟩, hem⟩ : ∃ t, m.getD x.1 ty0 = t := ⟨_, rfl⟩
      rw [hel, hem] at hst hfs
      refine AWP_region ?_
      refine st td_ok rfl rfl rfl rfl (r := .v _) rfl trivial ?_
      (refine st td_ok rfl rfl rfl rfl (r := .pp _ _) rfl ?_ ?_; · ((repeat' with_reducible apply And.intro) <;> (first | omega | (simp only [Ty.encs_len, Ty.enc_len, cond_true, cond_false, nd, Option.getD_none, Option.getD_some, Int.toNat_natCast, strs_len, nums_len, List.length_append, tds2, tds3, tds4, tds5, tds9, tds12, tds21, tds22, tds23, tds24, tds25, tds30, tds31, tds32, tds33, tds34, tds45, tds47, tds48, tds49, tds52, tds62, tds66, decide_eq_true_eq, Bool.and_eq_true, Bool.not_eq_true', decide_eq_false_iff_not] at *; omega))))
      (refine st_eq td_ok rfl rfl rfl rfl (r := _) rfl ?_ ((show _ = AV.agg (Ty.mk k2 n2 l2).enc from (Ty.at_lt l x.1 hlt _).trans (by rw [hel]))) ?_; · ((repeat' with_reducible apply And.intro) <;> (simp only [Ty.encs_len, Ty.enc_len, cond_true, cond_false, nd, Option.getD_none, Option.getD_some, Int.toNat_natCast, strs_len, nums_len, List.length_append, tds2, tds3, tds4, tds5, tds9, tds12, tds21, tds22, tds23, tds24, tds25, tds30, tds31, tds32, tds33, tds34, tds45, tds47, tds48, tds49, tds52, tds62, tds66, decide_eq_true_eq, Bool.and_eq_true, Bool.not_eq_true', decide_eq_false_iff_not] at *; omega)))
      refine st_alloc td_ok rfl rfl rfl rfl rfl rfl (zs := [.v _, .v _, _]) rfl fun r8 hr8 => ?_
      refine st td_ok rfl rfl rfl rfl (r := .v _) rfl trivial ?_
      refine st_store td_ok rfl rfl rfl rfl rfl rfl XH.put_same rfl (by ((repeat' with_reducible apply And.intro) <;> exact rfl)) (Nat.le_of_ble_eq_true rfl) (cs' := [.v _, .v _, _]) (T' := 25) rfl rfl ?_
      refine AOps_nil ?_
      refine qn ?_
      refine AWP_seq ?_
      refine AWP_region ?_
      refine st td_ok rfl rfl rfl rfl (r := .sl _ _ _) rfl trivial ?_
      refine st td_ok rfl rfl rfl rfl (r := .v _) rfl trivial ?_
      (refine st td_ok rfl rfl rfl rfl (r := .pp _ _) rfl ?_ ?_; · ((repeat' with_reducible apply And.intro) <;> (first | omega | (simp only [Ty.encs_len, Ty.enc_len, cond_true, cond_false, nd, Option.getD_none, Option.getD_some, Int.toNat_natCast, strs_len, nums_len, List.length_append, tds2, tds3, tds4, tds5, tds9, tds12, tds21, tds22, tds23, tds24, tds25, tds30, tds31, tds32, tds33, tds34, tds45, tds47, tds48, tds49, tds52, tds62, tds66, decide_eq_true_eq, Bool.and_eq_true, Bool.not_eq_true', decide_eq_false_iff_not] at *; omega))))
      (refine st_eq td_ok rfl rfl rfl rfl (r := _) rfl ?_ ((show _ = AV.agg (Ty.mk k3 n3 l3).enc from (Ty.at_lt m x.1 hlt2 _).trans (by rw [hem]))) ?_; · ((repeat' with_reducible apply And.intro) <;> (simp only [Ty.encs_len, Ty.enc_len, cond_true, cond_false, nd, Option.getD_none, Option.getD_some, Int.toNat_natCast, strs_len, nums_len, List.length_append, tds2, tds3, tds4, tds5, tds9, tds12, tds21, tds22, tds23, tds24, tds25, tds30, tds31, tds32, tds33, tds34, tds45, tds47, tds48, tds49, tds52, tds62, tds66, decide_eq_true_eq, Bool.and_eq_true, Bool.not_eq_true', decide_eq_false_iff_not] at *; omega)))
      refine st_alloc td_ok rfl rfl rfl rfl rfl rfl (zs := [.v _, .v _, _]) rfl fun r9 hr9 => ?_
      refine st_store td_ok rfl rfl rfl rfl rfl rfl XH.put_same rfl (by ((repeat' with_reducible apply And.intro) <;> exact rfl)) (Nat.le_of_ble_eq_true rfl) (cs' := [.v _, .v _, _]) (T' := 25) rfl rfl ?_
      refine AOps_nil ?_
      refine qn ?_
      refine AWP_seq ?_
      obtain ⟨h98, hx9⟩ := XH.put_none hr9
      have hr9' : X' r9 = none := (XH.put_none hx9).2
      refine AWP_region ?_
      refine st td_ok rfl rfl rfl rfl (r := .clo _ _ _) rfl trivial ?_
      refine st_own (r := .agg [.v _, .v _, _]) td_ok rfl rfl rfl rfl rfl rfl rfl (XH.put_ne (by (first | assumption | exact Ne.symm (by assumption) | (intro h; simp [XH.put, h] at *; done))) (XH.put_ne (by (first | assumption | exact Ne.symm (by assumption) | (intro h; simp [XH.put, h] at *; done))) XH.put_same)) (Nat.le_of_ble_eq_true rfl) rfl  ?_
      refine st_own (r := .agg [.v _, .v _, _]) td_ok rfl rfl rfl rfl rfl rfl rfl XH.put_same (Nat.le_of_ble_eq_true rfl) rfl  ?_
      refine st_call rfl rfl rfl rfl rfl rfl rfl hf (ACalls.mono (hst _ ?_) ?_)
      · rw [XH.put_put, XH.put_put]
        exact hput _ _ _ _ (hput _ _ _ _ hI' hr8) (XH.put_ne h98 hr9')
      rintro av X'' ⟨b, rfl, hb, hI''⟩
      refine st td_ok rfl rfl rfl rfl (r := .v _) rfl trivial ?_
      refine AOps_nil ?_
      refine qn ?_
      refine AWP_cond rfl rfl (fun h2 => ?_) (fun h2 => ?_)
      ·
        refine AWP_seq ?_
        refine AWP_region ?_
        refine st td_ok rfl rfl rfl rfl (r := .v _) rfl trivial ?_
        refine AOps_nil ?_
        refine qn ?_
        refine AWP_ret ?_
        refine qbr ?_
        refine qr ?_
        refine qr ?_
        refine qbr ?_
        refine qr ?_
        refine ⟨_, _, _, _, rfl, trivial, (GS.refl _ _), ?_⟩
        first | show AV.v _ = _ | show AV.tup _ = _ | show AV.sl _ _ _ = _ | show AV.agg _ = _ | skip
        have e : (step x.2 (Ty.mk k2 n2 l2) (Ty.mk k3 n3 l3)).2 = false := by rw [← hb]; simpa using h2
        exact ⟨_, rfl, by rw [hF, ← hq, hfs, if_neg (by rw [e]; simp)], by rw [hF, ← hq, hfs, if_neg (by rw [e]; simp)]; exact hI''⟩
      ·
        refine AWP_skip ?_
        refine qbn ?_
        refine qn ?_
        refine AWP_region ?_
        refine st_eq td_ok rfl rfl rfl rfl (r := .v _) rfl trivial (w64 (by omega)) ?_
        refine st td_ok rfl rfl rfl rfl (r := .v _) rfl trivial ?_
        refine AOps_nil ?_
        refine qn ?_
        exact ⟨(x.1 + 1, (step x.2 (Ty.mk k2 n2 l2) (Ty.mk k3 n3 l3)).1), by dsimp only; omega, by (repeat' (first | exact rfl | exact trivial | apply And.intro)), hI'', by dsimp only; omega, by dsimp only; rw [← hq, hfs, if_pos (by rw [← hb]; simpa using h2)]⟩
    ·
      refine AWP_exit ?_
      refine qx ?_
      refine qx ?_
      refine qbh ?_
      refine qn ?_
      refine AWP_seq ?_
      refine AWP_region ?_
      refine st td_ok rfl rfl rfl rfl (r := .v _) rfl trivial ?_
      refine AOps_nil ?_
      refine qn ?_
      refine AWP_ret ?_
      refine ⟨_, _, _, _, rfl, trivial, (GS.refl _ _), ?_⟩
      first | show AV.v _ = _ | show AV.tup _ = _ | show AV.sl _ _ _ = _ | show AV.agg _ = _ | skip
      have e : foldF step x.2 (l.drop x.1) (m.drop x.1) = (x.2, true) := by rw [List.drop_of_length_le (show l.length ≤ x.1 by simp only [decide_eq_false_iff_not] at h1; omega)]; rfl
      exact ⟨_, rfl, by rw [hF, ← hq, e], by rw [hF, ← hq, e]; exact hI'⟩
theorem eqF_tys : ∀ (l m : List Ty), (eqF (fun (_ : Unit) a b => ((), tyEq a b)) () l m).2 = tysEq l m := by
  intro l m
  unfold eqF
  by_cases h : l.length = m.length
  · rw [if_pos h]
    induction l generalizing m with
    | nil =>
      cases m with
      | nil => rfl
      | cons _ _ => simp at h
    | cons a l ih =>
      cases m with
      | nil => simp at h
      | cons b m =>
        simp only [foldF, tysEq]
        cases e : tyEq a b
        · simp
        · simp only [if_true, cond_true]
          exact ih m (by simpa using h)
  · rw [if_neg h, tysEq_len l m h]
theorem fok26 : FOk Try.prog 26 := ⟨_, rfl, rfl, rfl⟩
theorem Equal_c (m : Nat) : ∀ (t u : Ty), t.size < m → t.size ≤ 1000000000 → PCalls Try.prog 26 [.agg t.enc, .agg u.enc] (.v (.bool (tyEq t u))) := by
  induction m with
  | zero => intro t u h; omega
  | succ m ih =>
    rintro ⟨k, n, l⟩ ⟨k', n', l'⟩ hsz hs
    simp only [Ty.size] at hs
    have hll := Ty.sizes_len l
    have hE : PCalls Try.prog 25 [.sl false l.length (Ty.encs l), .sl false l'.length (Ty.encs l'), .clo (.func 26) [] []] (.v (.bool (tysEq l l'))) := by
      refine (EqualFunc_of (fun _ (_ : Unit) => True) (fun _ _ _ _ _ _ => trivial) (fun _ a b => ((), tyEq a b)) 26 [] [] l l' false false (by omega) fok26 (fun j X s hj hj2 _ => ?_) XH.none () trivial).mono ?_
      · refine ((ih (l.getD j ty0) (l'.getD j ty0) (by have := Ty.sizes_get l j hj; simp only [Ty.size] at hsz; omega) (by have := Ty.sizes_get l j hj; omega)).any X).mono ?_
        rintro av X' ⟨rfl, rfl⟩
        exact ⟨_, rfl, rfl, trivial⟩
      · rintro av X' ⟨b, rfl, hb, _⟩
        rw [hb, eqF_tys]
    refine calls_body td_ok Try.func26 rfl rfl rfl ?_
    refine AWP_seq ?_
    refine AWP_region ?_
    refine st_box td_ok rfl rfl rfl rfl rfl rfl (by ((repeat' with_reducible apply And.intro) <;> exact rfl)) fun r2 hr2 => ?_
    refine st_box td_ok rfl rfl rfl rfl rfl rfl (by ((repeat' with_reducible apply And.intro) <;> exact rfl)) fun r3 hr3 => ?_
    refine st td_ok rfl rfl rfl rfl (r := .v _) rfl trivial ?_
    refine AOps_nil ?_
    refine qn ?_
    refine AWP_seq ?_
    refine AWP_region ?_
    refine st td_ok rfl rfl rfl rfl (r := .v _) rfl trivial ?_
    refine st_own (r := .v _) td_ok rfl rfl rfl rfl rfl rfl rfl (XH.put_ne (by (first | assumption | exact Ne.symm (by assumption) | (intro h; simp [XH.put, h] at *; done))) XH.put_same) (Nat.le_of_ble_eq_true rfl) rfl  ?_
    refine st td_ok rfl rfl rfl rfl (r := .v _) rfl trivial ?_
    refine st_own (r := .v _) td_ok rfl rfl rfl rfl rfl rfl rfl XH.put_same (Nat.le_of_ble_eq_true rfl) rfl  ?_
    refine st td_ok rfl rfl rfl rfl (r := .v _) rfl trivial ?_
    refine st td_ok rfl rfl rfl rfl (r := .v _) rfl trivial ?_
    (refine sgk0 td_ok rfl rfl rfl rfl rfl rfl (r := .v _) rfl ?_ ?_; · exact fun hg => ⟨by (repeat' (first | exact trivial | exact hg | exact (Bool.and_eq_true_iff.mp hg).1 | apply And.intro)), by exact trivial⟩)
    refine sgk_own (r := .v _) td_ok rfl rfl rfl rfl rfl rfl rfl rfl rfl (XH.put_ne (by (first | assumption | exact Ne.symm (by assumption) | (intro h; simp [XH.put, h] at *; done))) XH.put_same) (fun hg => by (repeat' (first | exact trivial | exact hg | exact (Bool.and_eq_true_iff.mp hg).1 | apply And.intro))) (Nat.le_of_ble_eq_true rfl) rfl ?_
    (refine sgk0 td_ok rfl rfl rfl rfl rfl rfl (r := .v _) rfl ?_ ?_; · exact fun hg => ⟨by (repeat' (first | exact trivial | exact hg | exact (Bool.and_eq_true_iff.mp hg).1 | apply And.intro)), by exact trivial⟩)
    refine sgk_own (r := .v _) td_ok rfl rfl rfl rfl rfl rfl rfl rfl rfl XH.put_same (fun hg => by (repeat' (first | exact trivial | exact hg | exact (Bool.and_eq_true_iff.mp hg).1 | apply And.intro))) (Nat.le_of_ble_eq_true rfl) rfl ?_
    (refine sgk0 td_ok rfl rfl rfl rfl rfl rfl (r := .v _) rfl ?_ ?_; · exact fun hg => ⟨by (repeat' (first | exact trivial | exact hg | exact (Bool.and_eq_true_iff.mp hg).1 | apply And.intro)), by exact trivial⟩)
    (refine st td_ok rfl rfl rfl rfl (r := .v _) rfl ?_ ?_; · exact (fun h => h))
    refine st td_ok rfl rfl rfl rfl (r := .v _) rfl trivial ?_
    (refine sgk0 td_ok rfl rfl rfl rfl rfl rfl (r := .v _) rfl ?_ ?_; · exact fun hg => ⟨by (repeat' (first | exact trivial | exact hg | exact (Bool.and_eq_true_iff.mp hg).1 | apply And.intro)), by exact trivial⟩)
    refine sgk_own (r := .sl _ _ _) td_ok rfl rfl rfl rfl rfl rfl rfl rfl rfl (XH.put_ne (by (first | assumption | exact Ne.symm (by assumption) | (intro h; simp [XH.put, h] at *; done))) XH.put_same) (fun hg => by (repeat' (first | exact trivial | exact hg | exact (Bool.and_eq_true_iff.mp hg).1 | apply And.intro))) (Nat.le_of_ble_eq_true rfl) rfl ?_
    (refine sgk0 td_ok rfl rfl rfl rfl rfl rfl (r := .v _) rfl ?_ ?_; · exact fun hg => ⟨by (repeat' (first | exact trivial | exact hg | exact (Bool.and_eq_true_iff.mp hg).1 | apply And.intro)), by exact trivial⟩)
    refine sgk_own (r := .sl _ _ _) td_ok rfl rfl rfl rfl rfl rfl rfl rfl rfl XH.put_same (fun hg => by (repeat' (first | exact trivial | exact hg | exact (Bool.and_eq_true_iff.mp hg).1 | apply And.intro))) (Nat.le_of_ble_eq_true rfl) rfl ?_
    refine stg_call rfl rfl rfl rfl rfl rfl rfl rfl (fun hg => ⟨by (repeat' (first | exact trivial | exact hg | exact (Bool.and_eq_true_iff.mp hg).1 | apply And.intro)), rfl, ⟨_, rfl, rfl, rfl⟩, hE⟩) ?_
    (refine st td_ok rfl rfl rfl rfl (r := .v _) rfl ?_ ?_; · exact (fun h => h))
    refine st td_ok rfl rfl rfl rfl (r := .v _) rfl trivial ?_
    refine AOps_nil ?_
    refine qn ?_
    refine AWP_ret ?_
    refine ⟨_, _, _, _, rfl, trivial, GS.forget _ _, ?_⟩
    first | show AV.v _ = _ | show AV.tup _ = _ | show AV.sl _ _ _ = _ | show AV.agg _ = _ | skip
    rfl
end Go.Proofs.Ytgnfjahkhhkmoaa.V
