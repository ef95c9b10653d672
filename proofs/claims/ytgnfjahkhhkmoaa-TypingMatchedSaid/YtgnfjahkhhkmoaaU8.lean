import Derived.Test.YtgnfjahkhhkmoaaU7
namespace Go.Proofs.Ytgnfjahkhhkmoaa.V
open Go
set_option linter.unusedSimpArgs false
set_option linter.unusedVariables false

theorem dataF_ok {l : List Dat} (h : dataF l = true) : dataOk l := by
  intro d hd c hc
  unfold dataF at h
  cases e : decide ((l.length : Int) > 14) with
  | true => rw [e] at h; exact absurd h (by simp)
  | false =>
    rw [e] at h
    have h1 := List.all_eq_true.mp h d hd
    rcases d with ⟨nm, vs, cs⟩
    simp only [datF] at h1
    cases e2 : (bif decide ((nm.size : Int) > 40) then true else decide ((cs.length : Int) > 10)) with
    | true => rw [e2] at h1; exact absurd h1 (by simp)
    | false =>
      rw [e2] at h1
      have h2 := List.all_eq_true.mp h1 c hc
      rcases c with ⟨cn, ca⟩
      simp only [conF] at h2
      cases e3 : (bif decide ((cn.size : Int) > 40) then true else decide ((ca.length : Int) > 8)) with
      | true => rw [e3] at h2; exact absurd h2 (by simp)
      | false =>
        rw [e3] at h2
        have := typsF_ok (l := ca) (n := 20) (by decide) h2
        simp only [Con.args]; omega
theorem getD_mem {α : Type} {l : List α} {d : α} {j : Nat} (h : j < l.length) : l.getD j d ∈ l := by
  rw [List.getD_eq_getElem?_getD, List.getElem?_eq_getElem h]; exact List.getElem_mem h
mutual
theorem tyEq_refl : ∀ t : Ty, tyEq t t = true
  | .mk k n l => by simp only [tyEq, tysEq_refl l]; simp
theorem tysEq_refl : ∀ l : List Ty, tysEq l l = true
  | [] => rfl
  | t :: l => by simp only [tysEq, tyEq_refl t, tysEq_refl l]; rfl
end
theorem fieldsL_sizes {sg : List Ty} : ∀ {l acc r : List Ty}, fieldsL sg l acc = some r → Ty.sizes r ≤ Ty.sizes acc + 200 * l.length
  | [], acc, r, h => by simp only [fieldsL, Option.some.injEq] at h; subst h; simp
  | a :: l, acc, r, h => by
    simp only [fieldsL] at h
    split at h
    · exact absurd h (by simp)
    · have := fieldsL_sizes h
      rw [Ty.sizes_app] at this
      simp only [Ty.sizes, List.length_cons] at this ⊢
      omega
theorem fieldsF_sizes {data : List Dat} {k n : Int} {sg : List Ty} {c : Int} {l : List Ty} (hd : dataOk data) (h : fieldsF data k n sg c = some l) : Ty.sizes l ≤ 4000 := by
  unfold fieldsF at h
  split at h
  · exact absurd h (by simp)
  · rename_i h0
    unfold fieldsG at h
    split at h
    · exact absurd h (by simp)
    · rename_i h1
      have hlt := n_ok (k := k) (n := n) (m := data.length) (by simpa using h0)
      have hmem : data.getD n.toNat dat0 ∈ data := getD_mem hlt
      have h1' : (bif (bif ((sg.length : Int) != (data.getD n.toNat dat0).vars) then true else decide (c < 0)) then true else decide (c ≥ (data.getD n.toNat dat0).cons.length)) = false := by simpa using h1
      obtain ⟨q1, q2⟩ := or_no h1'
      have q3 := (or_no q1).2
      simp only [decide_eq_false_iff_not] at q2 q3
      have hlt2 : c.toNat < (data.getD n.toNat dat0).cons.length := by omega
      have hmem2 : (data.getD n.toNat dat0).cons.getD c.toNat con0 ∈ (data.getD n.toNat dat0).cons := getD_mem hlt2
      have hs := hd _ hmem _ hmem2
      have hl := Ty.sizes_len ((data.getD n.toNat dat0).cons.getD c.toNat con0).args
      have := fieldsL_sizes h
      simp only [Ty.sizes] at this
      omega
def oneData : List Dat := [.mk ⟨#[68]⟩ 0 [.mk ⟨#[67]⟩ []]]
theorem oneFits : fieldsF oneData 5 0 [] 0 = some [] := by rfl
theorem oneOk : dataOk oneData := by
  intro d hd c hc
  simp only [oneData, List.mem_singleton] at hd
  subst hd
  simp only [Dat.cons, List.mem_singleton] at hc
  subst hc
  simp [Con.args, Ty.sizes]
theorem one_c : PCalls Try.prog 7 [.sl true 1 [.v (.string ⟨#[68]⟩), .v (.int .i64 0), .sl true 1 [.v (.string ⟨#[67]⟩), .sl true 0 []]], .agg [.v (.int .i64 5), .v (.int .i64 0), .sl true 0 []], .v (.int .i64 0)] (.tup [.sl false 0 [], .v (.bool true)]) := by
  have h := Fields_c oneData 5 0 [] 0 true oneOk (by simp [Ty.sizes])
  rw [oneFits] at h
  refine h.to (Le.refl _) |>.of ?_
  refine LeL.cons ?_ (LeL.cons ?_ (LeL.refl _))
  · refine Le.slt (LeL.cons (Le.refl _) (LeL.cons (Le.refl _) (LeL.cons ?_ (LeL.refl _))))
    exact Le.sl (LeL.cons (Le.refl _) (LeL.cons (Le.sl (LeL.refl _)) (LeL.refl _)))
  · exact Le.agg (LeL.cons (Le.refl _) (LeL.cons (Le.refl _) (LeL.cons (Le.sl (LeL.refl _)) (LeL.refl _))))
theorem not_no {a b : Bool} (h : (bif (!a) then true else !b) = false) : a = true ∧ b = true := by cases a <;> cases b <;> simp_all
theorem fieldsLaw_of (data : List Dat) (k n : Int) (sg : List Ty) (c : Int) (tt : Bool) (l : List Ty) (b : Bool) (hl : Ty.sizes l ≤ 4000)
    (hc7 : dataF data = true → (typF (Ty.mk k n sg) 250).1 = true → PCalls Try.prog 7 [.sl false data.length (data.flatMap Dat.enc), .agg (Ty.mk k n sg).enc, .v (.int .i64 c)] (.tup [.sl tt l.length (Ty.encs l), .v (.bool b)]))
    (hc8 : dataF data = true → (typF (Ty.mk k n sg) 250).1 = true → PCalls Try.prog 8 [.sl false data.length (data.flatMap Dat.enc), .agg (Ty.mk k n sg).enc, .v (.int .i64 c)] (.tup [.sl tt l.length (Ty.encs l), .v (.bool b)])) :
    PCalls Try.prog 3 [.sl false data.length (data.flatMap Dat.enc), .agg (Ty.mk k n sg).enc, .v (.int .i64 c)] (.v (.bool true)) := by
  refine calls_body td_ok Try.func3 rfl rfl rfl ?_
  refine AWP_seq ?_
  refine AWP_region ?_
  refine st_box td_ok rfl rfl rfl rfl rfl rfl (by ((repeat' with_reducible apply And.intro) <;> exact rfl)) fun r4 hr4 => ?_
  refine st td_ok rfl rfl rfl rfl (r := .v _) rfl trivial ?_
  refine AOps_nil ?_
  refine qn ?_
  refine AWP_seq ?_
  refine AWP_seq ?_
  refine AWP_region ?_
  refine st td_ok rfl rfl rfl rfl (r := .sl _ _ _) rfl trivial ?_
  refine st_pcall rfl rfl rfl rfl rfl rfl rfl ⟨_, rfl, rfl, rfl⟩ (Data_c data false) ?_
  refine st td_ok rfl rfl rfl rfl (r := .v _) rfl trivial ?_
  refine st td_ok rfl rfl rfl rfl (r := .v _) rfl trivial ?_
  refine sgk_own (r := .agg [.v _, .v _, _]) td_ok rfl rfl rfl rfl rfl rfl rfl rfl rfl XH.put_same (fun hg => by (repeat' (first | exact trivial | exact hg | exact (Bool.and_eq_true_iff.mp hg).1 | apply And.intro))) (Nat.le_of_ble_eq_true rfl) rfl ?_
  refine stg_call rfl rfl rfl rfl rfl rfl rfl rfl (fun hg => ⟨by (repeat' (first | exact trivial | exact hg | exact (Bool.and_eq_true_iff.mp hg).1 | apply And.intro)), rfl, ⟨_, rfl, rfl, rfl⟩, (Type_c (Ty.mk k n sg))⟩) ?_
  (refine sgk0 td_ok rfl rfl rfl rfl rfl rfl (r := .v _) rfl ?_ ?_; · exact fun hg => ⟨by (repeat' (first | exact trivial | exact hg | exact (Bool.and_eq_true_iff.mp hg).1 | apply And.intro)), by exact trivial⟩)
  (refine st td_ok rfl rfl rfl rfl (r := .v _) rfl ?_ ?_; · first | (simp_all; done) | ((repeat' with_reducible apply And.intro) <;> with_reducible exact trivial))
  refine AOps_nil ?_
  refine qn ?_
  refine AWP_cond rfl rfl (fun h0 => ?_) (fun h0 => ?_)
  ·
    refine AWP_seq ?_
    refine AWP_region ?_
    refine st td_ok rfl rfl rfl rfl (r := .v _) rfl trivial ?_
    refine AOps_nil ?_
    refine qn ?_
    refine AWP_ret ?_
    refine qr ?_
    refine ⟨_, _, _, _, rfl, trivial, GS.forget _ _, ?_⟩
    first | show AV.v _ = _ | show AV.tup _ = _ | show AV.sl _ _ _ = _ | show AV.agg _ = _ | skip
    rfl
  ·
    obtain ⟨hq1, hq2⟩ := not_no h0
    have h7 := hc7 hq1 hq2
    have h8 := hc8 hq1 hq2
    refine AWP_skip ?_
    refine qn ?_
    refine AWP_seq ?_
    refine AWP_region ?_
    refine st td_ok rfl rfl rfl rfl (r := .sl _ _ _) rfl trivial ?_
    refine st_own (r := .agg [.v _, .v _, _]) td_ok rfl rfl rfl rfl rfl rfl rfl XH.put_same (Nat.le_of_ble_eq_true rfl) rfl  ?_
    refine st td_ok rfl rfl rfl rfl (r := .v _) rfl trivial ?_
    refine st_pcall rfl rfl rfl rfl rfl rfl rfl ⟨_, rfl, rfl, rfl⟩ h7 ?_
    refine st td_ok rfl rfl rfl rfl (r := .tup _) rfl trivial ?_
    refine st td_ok rfl rfl rfl rfl (r := .sl _ _ _) rfl trivial ?_
    refine st td_ok rfl rfl rfl rfl (r := .v _) rfl trivial ?_
    refine st td_ok rfl rfl rfl rfl (r := .sl _ _ _) rfl trivial ?_
    refine st td_ok rfl rfl rfl rfl (r := .v _) rfl trivial ?_
    refine AOps_nil ?_
    refine qn ?_
    refine AWP_seq ?_
    refine AWP_region ?_
    refine st td_ok rfl rfl rfl rfl (r := .sl _ _ _) rfl trivial ?_
    refine st_own (r := .agg [.v _, .v _, _]) td_ok rfl rfl rfl rfl rfl rfl rfl XH.put_same (Nat.le_of_ble_eq_true rfl) rfl  ?_
    refine st td_ok rfl rfl rfl rfl (r := .v _) rfl trivial ?_
    refine st_pcall rfl rfl rfl rfl rfl rfl rfl ⟨_, rfl, rfl, rfl⟩ h8 ?_
    refine st td_ok rfl rfl rfl rfl (r := .tup _) rfl trivial ?_
    refine st td_ok rfl rfl rfl rfl (r := .sl _ _ _) rfl trivial ?_
    refine st td_ok rfl rfl rfl rfl (r := .v _) rfl trivial ?_
    refine st td_ok rfl rfl rfl rfl (r := .sl _ _ _) rfl trivial ?_
    refine st td_ok rfl rfl rfl rfl (r := .v _) rfl trivial ?_
    refine AOps_nil ?_
    refine qn ?_
    refine AWP_seq ?_
    refine AWP_region ?_
    (refine st td_ok rfl rfl rfl rfl (r := .agg [.v _, _]) rfl ?_ ?_; · ((repeat' with_reducible apply And.intro) <;> (first | with_reducible exact trivial | exact rfl | exact Nat.le_of_ble_eq_true rfl)))
    refine st_lit td_ok rfl rfl rfl rfl rfl rfl rfl rfl rfl (by decide) (cs := [.v _, _]) rfl (by ((repeat' with_reducible apply And.intro) <;> (first | with_reducible exact trivial | exact rfl))) ?_
    (refine st td_ok rfl rfl rfl rfl (r := .agg [.v _, .v _, _]) rfl ?_ ?_; · ((repeat' with_reducible apply And.intro) <;> (first | with_reducible exact trivial | exact rfl | exact Nat.le_of_ble_eq_true rfl)))
    refine st_lit td_ok rfl rfl rfl rfl rfl rfl rfl rfl rfl (by decide) (cs := [.v _, .v _, _]) rfl (by ((repeat' with_reducible apply And.intro) <;> (first | with_reducible exact trivial | exact rfl))) ?_
    refine st td_ok rfl rfl rfl rfl (r := .sl _ _ _) rfl trivial ?_
    refine AOps_nil ?_
    refine qn ?_
    refine AWP_seq ?_
    refine AWP_region ?_
    refine st td_ok rfl rfl rfl rfl (r := .sl _ _ _) rfl trivial ?_
    (refine st td_ok rfl rfl rfl rfl (r := .agg [.v _, .v _, _]) rfl ?_ ?_; · ((repeat' with_reducible apply And.intro) <;> (first | with_reducible exact trivial | exact rfl | exact Nat.le_of_ble_eq_true rfl)))
    refine st_pcall rfl rfl rfl rfl rfl rfl rfl ⟨_, rfl, rfl, rfl⟩ one_c ?_
    refine st td_ok rfl rfl rfl rfl (r := .tup _) rfl trivial ?_
    refine st td_ok rfl rfl rfl rfl (r := .sl _ _ _) rfl trivial ?_
    refine st td_ok rfl rfl rfl rfl (r := .v _) rfl trivial ?_
    refine st td_ok rfl rfl rfl rfl (r := .sl _ _ _) rfl trivial ?_
    refine st td_ok rfl rfl rfl rfl (r := .v _) rfl trivial ?_
    refine AOps_nil ?_
    refine qn ?_
    refine AWP_seq ?_
    refine AWP_region ?_
    refine st td_ok rfl rfl rfl rfl (r := .v _) rfl trivial ?_
    refine st td_ok rfl rfl rfl rfl (r := .v _) rfl trivial ?_
    refine st td_ok rfl rfl rfl rfl (r := .v _) rfl trivial ?_
    refine st td_ok rfl rfl rfl rfl (r := .v _) rfl trivial ?_
    (refine sgk0 td_ok rfl rfl rfl rfl rfl rfl (r := .sl _ _ _) rfl ?_ ?_; · exact fun hg => ⟨by (repeat' (first | exact trivial | exact hg | exact (Bool.and_eq_true_iff.mp hg).1 | apply And.intro)), by exact trivial⟩)
    (refine sgk0 td_ok rfl rfl rfl rfl rfl rfl (r := .sl _ _ _) rfl ?_ ?_; · exact fun hg => ⟨by (repeat' (first | exact trivial | exact hg | exact (Bool.and_eq_true_iff.mp hg).1 | apply And.intro)), by exact trivial⟩)
    refine stg_call rfl rfl rfl rfl rfl rfl rfl rfl (fun hg => ⟨by (repeat' (first | exact trivial | exact hg | exact (Bool.and_eq_true_iff.mp hg).1 | apply And.intro)), rfl, ⟨_, rfl, rfl, rfl⟩, (SameTypes_c l l (by omega) tt tt)⟩) ?_
    (refine st td_ok rfl rfl rfl rfl (r := .v _) rfl ?_ ?_; · exact (fun h => h))
    refine st td_ok rfl rfl rfl rfl (r := .v _) rfl trivial ?_
    (refine sgk0 td_ok rfl rfl rfl rfl rfl rfl (r := .v _) rfl ?_ ?_; · exact fun hg => ⟨by (repeat' (first | exact trivial | exact hg | exact (Bool.and_eq_true_iff.mp hg).1 | apply And.intro)), by exact trivial⟩)
    (refine st td_ok rfl rfl rfl rfl (r := .v _) rfl ?_ ?_; · exact (fun h => h))
    refine st td_ok rfl rfl rfl rfl (r := .v _) rfl trivial ?_
    refine AOps_nil ?_
    refine qn ?_
    refine AWP_ret ?_
    refine ⟨_, _, _, _, rfl, trivial, GS.forget _ _, ?_⟩
    first | show AV.v _ = _ | show AV.tup _ = _ | show AV.sl _ _ _ = _ | show AV.agg _ = _ | skip
    rw [tysEq_refl]; cases b <;> rfl
theorem fieldsLaw_c (data : List Dat) (t : Ty) (c : Int) : PCalls Try.prog 3 [.sl false data.length (data.flatMap Dat.enc), .agg t.enc, .v (.int .i64 c)] (.v (.bool true)) := by
  rcases t with ⟨k, n, sg⟩
  have hs : (typF (Ty.mk k n sg) 250).1 = true → Ty.sizes sg ≤ 250 := by
    intro h
    have := typF_ok (t := Ty.mk k n sg) (n := 250) (by decide) h
    simp only [Ty.size] at this
    omega
  cases hd : dataF data with
  | false => exact fieldsLaw_of data k n sg c true [] false (by simp [Ty.sizes]) (fun h => by rw [hd] at h; exact absurd h (by simp)) (fun h => by rw [hd] at h; exact absurd h (by simp))
  | true =>
    have hok := dataF_ok hd
    cases hF : fieldsF data k n sg c with
    | none =>
      refine fieldsLaw_of data k n sg c true [] false (by simp [Ty.sizes]) (fun _ h => ?_) (fun _ h => ?_)
      · have h2 := Fields_c data k n sg c false hok (hs h)
        rw [hF] at h2; exact h2
      · have h2 := rFields_c data k n sg c false hok (hs h)
        rw [hF] at h2; exact h2
    | some l =>
      refine fieldsLaw_of data k n sg c false l true (fieldsF_sizes hok hF) (fun _ h => ?_) (fun _ h => ?_)
      · have h2 := Fields_c data k n sg c false hok (hs h)
        rw [hF] at h2; exact h2
      · have h2 := rFields_c data k n sg c false hok (hs h)
        rw [hF] at h2; exact h2
end Go.Proofs.Ytgnfjahkhhkmoaa.V
