import Derived.Test.YtgnfjahkhhkmoaaDoorC8
namespace Go.Proofs.YtgnfjahkhhkmoaaDoor.V
open Go
set_option linter.unusedSimpArgs false
set_option linter.unusedVariables false
set_option maxRecDepth 20000

def fmtV (data : List Dat) (t : Ty) : List UInt8 := if (decide (t.size ≤ 200) && validT data 101 t) = true then fmtT data t else []
theorem namesOk_of {l : List Dat} (h : dataF l = true) : l.length ≤ 14 ∧ namesOk l := by
  unfold dataF at h
  cases hc : decide ((l.length : Int) > 14) with
  | true => rw [hc] at h; exact absurd h (by simp)
  | false =>
    rw [hc] at h
    simp only [decide_eq_false_iff_not] at hc
    refine ⟨by omega, fun d hd => ?_⟩
    have h2 : l.all datF = true := h
    rw [List.all_eq_true] at h2
    have h3 := h2 d hd
    rcases d with ⟨nm, v, cs⟩
    simp only [datF] at h3
    cases he : (bif decide ((nm.size : Int) > 40) then true else decide ((cs.length : Int) > 10)) with
    | true => rw [he] at h3; exact absurd h3 (by simp)
    | false =>
      have := (or_no he).1
      simp only [decide_eq_false_iff_not] at this
      show nm.size ≤ 40
      omega
theorem Format_c (data : List Dat) (ta : Bool) (hd : data.length ≤ 1000000000) (hno : namesOk data) (t : Ty) (hs : t.size ≤ 1000000) : PCalls Tryd.prog 8 [.sl ta data.length (data.flatMap Dat.enc), .agg t.enc] (.v (.string (mkS (fmtV data t)))) := by
  have hv := Valid_c data ta 101 hd t (by omega)
  have ht := text_c data ta hd hno _ t (Nat.lt_succ_self _) hs
  unfold fmtV
  obtain ⟨b, hb⟩ : ∃ b, (decide (t.size ≤ 200) && validT data 101 t) = b := ⟨_, rfl⟩
  have hb2 : b = true → validT data 101 t = true := by intro h; rw [h, Bool.and_eq_true] at hb; exact hb.2
  rw [hb] at hv ⊢
  generalize fmtT data t = ft at ht ⊢
  generalize validT data 101 t = vt at ht hb hb2
  rcases t with ⟨k, n, l⟩
  refine calls_body td_ok Tryd.func8 rfl rfl rfl ?_
  refine AWP_seq ?_
  refine AWP_region ?_
  refine st_box td_ok rfl rfl rfl rfl rfl rfl (by ((repeat' with_reducible apply And.intro) <;> exact rfl)) fun r3 hr3 => ?_
  refine st td_ok rfl rfl rfl rfl (r := .v _) rfl trivial ?_
  refine AOps_nil ?_
  refine qn ?_
  refine AWP_seq ?_
  refine AWP_seq ?_
  refine AWP_region ?_
  refine st td_ok rfl rfl rfl rfl (r := .sl _ _ _) rfl trivial ?_
  refine st_own (r := .agg [.v _, .v _, _]) td_ok rfl rfl rfl rfl rfl rfl rfl XH.put_same (Nat.le_of_ble_eq_true rfl) rfl  ?_
  refine st_pcall rfl rfl rfl rfl rfl rfl rfl ⟨_, rfl, rfl, rfl⟩ hv ?_
  refine st td_ok rfl rfl rfl rfl (r := .v _) rfl trivial ?_
  refine AOps_nil ?_
  refine qn ?_
  refine AWP_cond rfl rfl (fun h0 => ?_) (fun h0 => ?_)
  ·
    have hb3 : b = false := by simpa using h0
    refine AWP_seq ?_
    refine AWP_region ?_
    refine st td_ok rfl rfl rfl rfl (r := .v _) rfl trivial ?_
    refine AOps_nil ?_
    refine qn ?_
    refine AWP_ret ?_
    refine qr ?_
    refine ⟨_, _, _, _, rfl, trivial, GS.forget _ _, ?_⟩
    first | show AV.v _ = _ | show AV.tup _ = _ | show AV.sl _ _ _ = _ | show AV.agg _ = _ | skip
    rw [hb3]; rfl
  ·
    have hb3 : b = true := by simpa using h0
    refine AWP_skip ?_
    refine qn ?_
    refine AWP_seq ?_
    refine AWP_region ?_
    refine st td_ok rfl rfl rfl rfl (r := .sl _ _ _) rfl trivial ?_
    refine st_own (r := .agg [.v _, .v _, _]) td_ok rfl rfl rfl rfl rfl rfl rfl XH.put_same (Nat.le_of_ble_eq_true rfl) rfl  ?_
    refine st_pcall rfl rfl rfl rfl rfl rfl rfl ⟨_, rfl, rfl, rfl⟩ (ht (hb2 hb3)) ?_
    refine st td_ok rfl rfl rfl rfl (r := .v _) rfl trivial ?_
    refine AOps_nil ?_
    refine qn ?_
    refine AWP_ret ?_
    refine ⟨_, _, _, _, rfl, trivial, GS.forget _ _, ?_⟩
    first | show AV.v _ = _ | show AV.tup _ = _ | show AV.sl _ _ _ = _ | show AV.agg _ = _ | skip
    rw [hb3]; rfl
theorem rFormat_c (data : List Dat) (ta : Bool) (hd : data.length ≤ 1000000000) (hno : namesOk data) (t : Ty) (hs : t.size ≤ 1000000) : PCalls Tryd.prog 9 [.sl ta data.length (data.flatMap Dat.enc), .agg t.enc] (.v (.string (mkS (fmtV data t)))) := by
  have hv := rValid_c data ta 101 hd t (by omega)
  have ht := rformat_c data ta hd hno _ t (Nat.lt_succ_self _) hs
  unfold fmtV
  obtain ⟨b, hb⟩ : ∃ b, (decide (t.size ≤ 200) && validT data 101 t) = b := ⟨_, rfl⟩
  have hb2 : b = true → validT data 101 t = true := by intro h; rw [h, Bool.and_eq_true] at hb; exact hb.2
  rw [hb] at hv ⊢
  generalize fmtT data t = ft at ht ⊢
  generalize validT data 101 t = vt at ht hb hb2
  rcases t with ⟨k, n, l⟩
  refine calls_body td_ok Tryd.func9 rfl rfl rfl ?_
  refine AWP_seq ?_
  refine AWP_region ?_
  refine st_box td_ok rfl rfl rfl rfl rfl rfl (by ((repeat' with_reducible apply And.intro) <;> exact rfl)) fun r3 hr3 => ?_
  refine st td_ok rfl rfl rfl rfl (r := .v _) rfl trivial ?_
  refine AOps_nil ?_
  refine qn ?_
  refine AWP_seq ?_
  refine AWP_seq ?_
  refine AWP_region ?_
  refine st td_ok rfl rfl rfl rfl (r := .sl _ _ _) rfl trivial ?_
  refine st_own (r := .agg [.v _, .v _, _]) td_ok rfl rfl rfl rfl rfl rfl rfl XH.put_same (Nat.le_of_ble_eq_true rfl) rfl  ?_
  refine st_pcall rfl rfl rfl rfl rfl rfl rfl ⟨_, rfl, rfl, rfl⟩ hv ?_
  refine st td_ok rfl rfl rfl rfl (r := .v _) rfl trivial ?_
  refine AOps_nil ?_
  refine qn ?_
  refine AWP_cond rfl rfl (fun h0 => ?_) (fun h0 => ?_)
  ·
    have hb3 : b = false := by simpa using h0
    refine AWP_seq ?_
    refine AWP_region ?_
    refine st td_ok rfl rfl rfl rfl (r := .v _) rfl trivial ?_
    refine AOps_nil ?_
    refine qn ?_
    refine AWP_ret ?_
    refine qr ?_
    refine ⟨_, _, _, _, rfl, trivial, GS.forget _ _, ?_⟩
    first | show AV.v _ = _ | show AV.tup _ = _ | show AV.sl _ _ _ = _ | show AV.agg _ = _ | skip
    rw [hb3]; rfl
  ·
    have hb3 : b = true := by simpa using h0
    refine AWP_skip ?_
    refine qn ?_
    refine AWP_seq ?_
    refine AWP_region ?_
    refine st td_ok rfl rfl rfl rfl (r := .sl _ _ _) rfl trivial ?_
    refine st_own (r := .agg [.v _, .v _, _]) td_ok rfl rfl rfl rfl rfl rfl rfl XH.put_same (Nat.le_of_ble_eq_true rfl) rfl  ?_
    refine st_pcall rfl rfl rfl rfl rfl rfl rfl ⟨_, rfl, rfl, rfl⟩ (ht (hb2 hb3)) ?_
    refine st td_ok rfl rfl rfl rfl (r := .v _) rfl trivial ?_
    refine AOps_nil ?_
    refine qn ?_
    refine AWP_ret ?_
    refine ⟨_, _, _, _, rfl, trivial, GS.forget _ _, ?_⟩
    first | show AV.v _ = _ | show AV.tup _ = _ | show AV.sl _ _ _ = _ | show AV.agg _ = _ | skip
    rw [hb3]; rfl
theorem int_c : PCalls Tryd.prog 8 [.sl true 0 [], .agg [.v (.int .i64 1), .v (.int .i64 0), .sl true 0 []]] (.v (.string ⟨#[105, 110, 116]⟩)) :=
  PCalls.of (Format_c [] true (by decide) (fun d h => absurd h (by simp)) (.mk 1 0 []) (by decide)) (LeL.cons (Le.refl _) (LeL.cons (Le.agg (LeL.cons (Le.refl _) (LeL.cons (Le.refl _) (LeL.cons (Le.sl (LeL.refl _)) (LeL.refl _))))) (LeL.refl _)))
theorem textsLaw_c (data : List Dat) (t : Ty) (c : Int) : PCalls Tryd.prog 3 [.sl false data.length (data.flatMap Dat.enc), .agg t.enc, .v (.int .i64 c)] (.v (.bool true)) := by
  have hD := Data_c data false
  have hT := Type_c t
  obtain ⟨bd, hbd⟩ : ∃ b, dataF data = b := ⟨_, rfl⟩
  obtain ⟨bt, hbt⟩ : ∃ b, (typF t 250).1 = b := ⟨_, rfl⟩
  have key : bd = true → bt = true → (data.length ≤ 1000000000 ∧ namesOk data ∧ t.size ≤ 1000000) := by
    intro h1 h2
    obtain ⟨h3, h4⟩ := namesOk_of (hbd.trans h1)
    have := typF_ok (t := t) (n := 250) (by decide) (hbt.trans h2)
    exact ⟨by omega, h4, by omega⟩
  rw [hbd] at hD
  rw [hbt] at hT
  have h6 := fun h1 h2 => Valid_c data false c (key h1 h2).1 t (by have := (key h1 h2).2.2; omega)
  have h7 := fun h1 h2 => rValid_c data false c (key h1 h2).1 t (by have := (key h1 h2).2.2; omega)
  have h8 := fun h1 h2 => Format_c data false (key h1 h2).1 (key h1 h2).2.1 t (key h1 h2).2.2
  have h9 := fun h1 h2 => rFormat_c data false (key h1 h2).1 (key h1 h2).2.1 t (key h1 h2).2.2
  generalize (decide (t.size ≤ 200) && validT data c t) = bv at h6 h7
  generalize mkS (fmtV data t) = bs at h8 h9
  clear hbd hbt key
  rcases t with ⟨k, n, l⟩
  refine calls_body td_ok Tryd.func3 rfl rfl rfl ?_
  refine AWP_seq ?_
  refine AWP_region ?_
  refine st_box td_ok rfl rfl rfl rfl rfl rfl (by ((repeat' with_reducible apply And.intro) <;> exact rfl)) fun r4 hr4 => ?_
  refine st td_ok rfl rfl rfl rfl (r := .v _) rfl trivial ?_
  refine AOps_nil ?_
  refine qn ?_
  refine AWP_seq ?_
  refine AWP_seq ?_
  refine AWP_region ?_
  refine st td_ok rfl rfl rfl rfl (r := .sl _ _ _) rfl trivial ?_
  refine st_pcall rfl rfl rfl rfl rfl rfl rfl ⟨_, rfl, rfl, rfl⟩ hD ?_
  refine st td_ok rfl rfl rfl rfl (r := .v _) rfl trivial ?_
  refine st td_ok rfl rfl rfl rfl (r := .v _) rfl trivial ?_
  refine sgk_own (r := .agg [.v _, .v _, _]) td_ok rfl rfl rfl rfl rfl rfl rfl rfl rfl XH.put_same (fun hg => by (repeat' (first | exact trivial | exact hg | exact (Bool.and_eq_true_iff.mp hg).1 | apply And.intro))) (Nat.le_of_ble_eq_true rfl) rfl ?_
  refine stg_call rfl rfl rfl rfl rfl rfl rfl rfl (fun hg => ⟨by (repeat' (first | exact trivial | exact hg | exact (Bool.and_eq_true_iff.mp hg).1 | apply And.intro)), rfl, ⟨_, rfl, rfl, rfl⟩, hT⟩) ?_
  (refine sgk0 td_ok rfl rfl rfl rfl rfl rfl (r := .v _) rfl ?_ ?_; · exact fun hg => ⟨by (repeat' (first | exact trivial | exact hg | exact (Bool.and_eq_true_iff.mp hg).1 | apply And.intro)), by exact trivial⟩)
  (refine st td_ok rfl rfl rfl rfl (r := .v _) rfl ?_ ?_; · first | (simp_all; done) | ((repeat' with_reducible apply And.intro) <;> with_reducible exact trivial))
  refine AOps_nil ?_
  refine qn ?_
  refine AWP_cond rfl rfl (fun h0 => ?_) (fun h0 => ?_)
  ·
    refine AWP_seq ?_
    refine AWP_region ?_
    refine st td_ok rfl rfl rfl rfl (r := .v _) rfl trivial ?_
    refine AOps_nil ?_
    refine qn ?_
    refine AWP_ret ?_
    refine qr ?_
    refine ⟨_, _, _, _, rfl, trivial, GS.forget _ _, ?_⟩
    first | show AV.v _ = _ | show AV.tup _ = _ | show AV.sl _ _ _ = _ | show AV.agg _ = _ | skip
    rfl
  ·
    have hb1 : bd = true := by cases bd <;> cases bt <;> simp_all
    have hb2 : bt = true := by cases bd <;> cases bt <;> simp_all
    refine AWP_skip ?_
    refine qn ?_
    refine AWP_seq ?_
    refine AWP_drawn rfl rfl rfl rfl ?_
    refine es td_ok rfl rfl rfl (r := .sl _ _ _) rfl trivial (rfl) ?_
    refine es_own (r := .agg [.v _, .v _, _]) td_ok rfl rfl rfl rfl rfl rfl XH.put_same (Nat.le_of_ble_eq_true rfl) rfl ?_
    refine es td_ok rfl rfl rfl (r := .v _) rfl trivial (rfl) ?_
    refine es_call rfl rfl rfl rfl rfl rfl ⟨_, rfl, rfl, rfl⟩ (h6 hb1 hb2) ?_
    refine es td_ok rfl rfl rfl (r := .sl _ _ _) rfl trivial (rfl) ?_
    refine es_own (r := .agg [.v _, .v _, _]) td_ok rfl rfl rfl rfl rfl rfl XH.put_same (Nat.le_of_ble_eq_true rfl) rfl ?_
    refine es td_ok rfl rfl rfl (r := .v _) rfl trivial (rfl) ?_
    refine es_call rfl rfl rfl rfl rfl rfl ⟨_, rfl, rfl, rfl⟩ (h7 hb1 hb2) ?_
    refine es td_ok rfl rfl rfl (r := .v _) rfl trivial (rfl) ?_
    refine es td_ok rfl rfl rfl (r := .v _) rfl trivial (rfl) ?_
    (refine esk0 td_ok rfl rfl rfl rfl (r := .sl _ _ _) rfl ?_ ?_; · exact fun hg => ⟨by (repeat' (first | exact trivial | exact hg | exact (Bool.and_eq_true_iff.mp hg).1 | apply And.intro)), by exact trivial⟩)
    refine esk_own (r := .agg [.v _, .v _, _]) td_ok rfl rfl rfl rfl rfl rfl rfl XH.put_same (fun hg => by (repeat' (first | exact trivial | exact hg | exact (Bool.and_eq_true_iff.mp hg).1 | apply And.intro))) (Nat.le_of_ble_eq_true rfl) rfl ?_
    refine esg_call rfl rfl rfl rfl rfl rfl (fun hg => ⟨by (repeat' (first | exact trivial | exact hg | exact (Bool.and_eq_true_iff.mp hg).1 | apply And.intro)), rfl, ⟨_, rfl, rfl, rfl⟩, (h8 hb1 hb2)⟩) ?_
    (refine esk0 td_ok rfl rfl rfl rfl (r := .sl _ _ _) rfl ?_ ?_; · exact fun hg => ⟨by (repeat' (first | exact trivial | exact hg | exact (Bool.and_eq_true_iff.mp hg).1 | apply And.intro)), by exact trivial⟩)
    refine esk_own (r := .agg [.v _, .v _, _]) td_ok rfl rfl rfl rfl rfl rfl rfl XH.put_same (fun hg => by (repeat' (first | exact trivial | exact hg | exact (Bool.and_eq_true_iff.mp hg).1 | apply And.intro))) (Nat.le_of_ble_eq_true rfl) rfl ?_
    refine esg_call rfl rfl rfl rfl rfl rfl (fun hg => ⟨by (repeat' (first | exact trivial | exact hg | exact (Bool.and_eq_true_iff.mp hg).1 | apply And.intro)), rfl, ⟨_, rfl, rfl, rfl⟩, (h9 hb1 hb2)⟩) ?_
    (refine esk0 td_ok rfl rfl rfl rfl (r := .v _) rfl ?_ ?_; · exact fun hg => ⟨by (repeat' (first | exact trivial | exact hg | exact (Bool.and_eq_true_iff.mp hg).1 | apply And.intro)), by exact trivial⟩)
    (refine es td_ok rfl rfl rfl (r := .v _) rfl ?_ (rfl) ?_; · exact (fun h => h))
    refine es td_ok rfl rfl rfl (r := .v _) rfl trivial (rfl) ?_
    (refine esk0 td_ok rfl rfl rfl rfl (r := .agg [.v _, .v _, _]) rfl ?_ ?_; · exact fun hg => ⟨by (repeat' (first | exact trivial | exact hg | exact (Bool.and_eq_true_iff.mp hg).1 | apply And.intro)), by ((repeat' with_reducible apply And.intro) <;> (first | with_reducible exact trivial | exact rfl | exact Nat.le_of_ble_eq_true rfl))⟩)
    refine esg_call rfl rfl rfl rfl rfl rfl (fun hg => ⟨by (repeat' (first | exact trivial | exact hg | exact (Bool.and_eq_true_iff.mp hg).1 | apply And.intro)), rfl, ⟨_, rfl, rfl, rfl⟩, int_c⟩) ?_
    (refine esk0 td_ok rfl rfl rfl rfl (r := .v _) rfl ?_ ?_; · exact fun hg => ⟨by (repeat' (first | exact trivial | exact hg | exact (Bool.and_eq_true_iff.mp hg).1 | apply And.intro)), by exact trivial⟩)
    (refine es td_ok rfl rfl rfl (r := .v _) rfl ?_ (rfl) ?_; · exact (fun h => h))
    refine es td_ok rfl rfl rfl (r := .v _) rfl trivial (rfl) ?_
    refine AOps_nil ?_
    refine qn ?_
    refine AWP_ret ?_
    refine ⟨_, _, _, _, rfl, trivial, GS.forget _ _, ?_⟩
    first | show AV.v _ = _ | show AV.tup _ = _ | show AV.sl _ _ _ = _ | show AV.agg _ = _ | skip
    simp only [beq_self_eq_true]; rfl
end Go.Proofs.YtgnfjahkhhkmoaaDoor.V
