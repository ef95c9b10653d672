import Derived.Test.YtgnfjahkhhkmoaaU10
import Derived.Test.YtgnfjahkhhkmoaaU7
namespace Go.Proofs.Ytgnfjahkhhkmoaa.V
open Go
set_option linter.unusedSimpArgs false
set_option linter.unusedVariables false

structure MS where
  found : List Bool
  types : List Ty
def bools (l : List Bool) : List AV := l.flatMap fun b => [.v (.bool b)]
theorem bools_len (l : List Bool) : (bools l).length = l.length := by unfold bools; rw [flat_len _ 1 (fun _ => rfl)]; omega
def unitT : Ty := .mk 3 0 []
def grow (s : MS) (n : Nat) : MS := ⟨s.found ++ List.replicate (n + 1 - s.types.length) false, s.types ++ List.replicate (n + 1 - s.types.length) unitT⟩
def grow1 (s : MS) : MS := ⟨s.found ++ [false], s.types ++ [unitT]⟩
theorem grow_step {s : MS} {n : Nat} (h : s.types.length ≤ n) : grow (grow1 s) n = grow s n := by
  unfold grow grow1
  obtain ⟨k, hk⟩ : ∃ k, n + 1 - s.types.length = k + 1 := ⟨n - s.types.length, by omega⟩
  have e : n + 1 - (s.types ++ [unitT]).length = k := by rw [List.length_append]; simp only [List.length_cons, List.length_nil]; omega
  simp only [e, hk, List.replicate_succ, List.append_assoc, List.singleton_append]
theorem grow_end {s : MS} {n : Nat} (h : n < s.types.length) : grow s n = s := by
  unfold grow
  rw [show n + 1 - s.types.length = 0 by omega]
  simp
def setM (s : MS) (n : Nat) (u : Ty) : MS := ⟨s.found.set n true, s.types.set n u⟩
mutual
def matchF : MS → Ty → Ty → MS × Bool
  | s, .mk k n l, .mk k' n' l' =>
    if k ≠ 4 then (if (bif k == k' then n == n' else false) then (if l.length = l'.length then matchL s l l' else (s, false)) else (s, false))
    else if (bif decide (n < 0) then true else decide (n > 100)) then (s, false)
    else if (grow s n.toNat).found.getD n.toNat false then (grow s n.toNat, tyEq ((grow s n.toNat).types.getD n.toNat ty0) (.mk k' n' l'))
    else (setM (grow s n.toNat) n.toNat (.mk k' n' l'), true)
def matchL : MS → List Ty → List Ty → MS × Bool
  | s, a :: l, b :: m => if (matchF s a b).2 = true then matchL (matchF s a b).1 l m else ((matchF s a b).1, false)
  | s, [], _ => (s, true)
  | s, _ :: _, [] => (s, true)
end
theorem foldF_match : ∀ (l m : List Ty) (s : MS), foldF matchF s l m = matchL s l m
  | [], m, s => by cases m <;> rfl
  | a :: l, [], s => rfl
  | a :: l, b :: m, s => by simp only [foldF, matchL, foldF_match l m]
def smallT (l : List Ty) : Prop := ∀ t, t ∈ l → t.size ≤ 1000000
structure M4 (X : XH) (m : Nat) (s : MS) (fs ts : AV) : Prop where
  len : s.found.length = s.types.length
  few : s.types.length ≤ 101
  small : smallT s.types
  at_ : X m = some ⟨49, [fs, ts]⟩
  own1 : Own X 4 1 fs s.found.length (bools s.found)
  own2 : Own X 25 3 ts s.types.length (Ty.encs s.types)
  n1 : ¬ fs.at? m
  n2 : ¬ ts.at? m
  dis : ∀ q, fs.at? q → ¬ ts.at? q
def MInv (X : XH) (m : Nat) (s : MS) : Prop := ∃ fs ts, M4 X m s fs ts
theorem M4.put {X : XH} {m r : Nat} {s : MS} {fs ts : AV} {o : XB} (h : M4 X m s fs ts) (hr : X r = none) : M4 (X.put r o) m s fs ts :=
  ⟨h.len, h.few, h.small, XH.put_ne (XH.ne h.at_ hr) h.at_, Own.put h.own1 (Own.nat h.own1 hr), Own.put h.own2 (Own.nat h.own2 hr), h.n1, h.n2, h.dis⟩
theorem MInv.put {X : XH} {m r : Nat} {s : MS} {o : XB} (h : MInv X m s) (hr : X r = none) : MInv (X.put r o) m s := by
  obtain ⟨fs, ts, h⟩ := h; exact ⟨fs, ts, h.put hr⟩
theorem bools_app (l : List Bool) (b : Bool) : bools l ++ [.v (.bool b)] = bools (l ++ [b]) := by simp [bools]
theorem encs_cells (l : List Ty) (pad : List AV) (j : Nat) (h : j < l.length) (z : List Value) : AV.agg (cellsAt (Ty.encs l ++ pad) (0 + j * 3) 3 z) = AV.agg (l.getD j ty0).enc := by
  rw [Nat.zero_add, Ty.encs_flat, own_cells Ty.enc ty0 Ty.enc_len l pad j h]
theorem bools_cell (l : List Bool) (pad : List AV) (j : Nat) (h : j < l.length) (z : List Value) : cellAt (bools l ++ pad) (0 + j * 1) z = .v (.bool (l.getD j false)) := by
  have := own_cell (fun b : Bool => [AV.v (.bool b)]) false (fun _ => rfl) l pad j 0 (by decide) (z := z) h
  rw [Nat.zero_add]
  exact this
theorem fok20 : FOk Try.prog 20 := ⟨_, rfl, rfl, rfl⟩
set_option maxRecDepth 20000 in
theorem match_c (M : Nat) : ∀ (t u : Ty) (X : XH) (m : Nat) (s : MS), t.size < M → t.size ≤ 1000000 → u.size ≤ 1000000 → MInv X m s → ACalls Try.prog 20 [.v (.pointer (some ⟨m, 0, none⟩)), .agg t.enc, .agg u.enc] X (fun av X' => ∃ b, av = .v (.bool b) ∧ b = (matchF s t u).2 ∧ MInv X' m (matchF s t u).1) := by
  induction M with
  | zero => intro t u X m s h; omega
  | succ M ih =>
    rintro ⟨k, n, l⟩ ⟨k', n', l'⟩ X m s hsz hst hsu hM
    simp only [Ty.size] at hst hsu
    have hll := Ty.sizes_len l
    refine calls_body td_ok Try.func20 rfl rfl rfl ?_
    refine AWP_seq ?_
    refine AWP_region ?_
    refine st_box td_ok rfl rfl rfl rfl rfl rfl (by ((repeat' with_reducible apply And.intro) <;> exact rfl)) fun r4 hr4 => ?_
    refine st_box td_ok rfl rfl rfl rfl rfl rfl (by ((repeat' with_reducible apply And.intro) <;> exact rfl)) fun r5 hr5 => ?_
    refine st td_ok rfl rfl rfl rfl (r := .v _) rfl trivial ?_
    refine AOps_nil ?_
    refine qn ?_
    refine AWP_seq ?_
    refine AWP_seq ?_
    obtain ⟨h54, hr5n⟩ := XH.put_none hr5
    obtain ⟨fs0, ts0, hM0⟩ := hM
    have hM' : M4 ((X.put r4 ⟨25, (Ty.mk k n l).enc⟩).put r5 ⟨25, (Ty.mk k' n' l').enc⟩) m s fs0 ts0 := M4.put (M4.put hM0 hr4) hr5
    have hX4 : ((X.put r4 ⟨25, (Ty.mk k n l).enc⟩).put r5 ⟨25, (Ty.mk k' n' l').enc⟩) r4 = some ⟨25, (Ty.mk k n l).enc⟩ := XH.put_ne h54.symm XH.put_same
    have hX5 : ((X.put r4 ⟨25, (Ty.mk k n l).enc⟩).put r5 ⟨25, (Ty.mk k' n' l').enc⟩) r5 = some ⟨25, (Ty.mk k' n' l').enc⟩ := XH.put_same
    have hf4 := Own.nat hM0.own1 hr4
    have hf5 := Own.nat hM0.own1 hr5n
    have ht4 := Own.nat hM0.own2 hr4
    have ht5 := Own.nat hM0.own2 hr5n
    clear hr5
    generalize (X.put r4 ⟨25, (Ty.mk k n l).enc⟩).put r5 ⟨25, (Ty.mk k' n' l').enc⟩ = Y at hM' hX4 hX5 ⊢
    refine AWP_region ?_
    refine st td_ok rfl rfl rfl rfl (r := .v _) rfl trivial ?_
    refine st_own (r := .v _) td_ok rfl rfl rfl rfl rfl rfl rfl (by assumption) (Nat.le_of_ble_eq_true rfl) rfl  ?_
    refine st td_ok rfl rfl rfl rfl (r := .v _) rfl trivial ?_
    refine AOps_nil ?_
    refine qn ?_
    refine AWP_cond rfl rfl (fun h0 => ?_) (fun h0 => ?_)
    ·
      have hk4 : k ≠ 4 := by simpa using h0
      refine AWP_seq ?_
      refine AWP_region ?_
      refine st td_ok rfl rfl rfl rfl (r := .v _) rfl trivial ?_
      refine st_own (r := .v _) td_ok rfl rfl rfl rfl rfl rfl rfl (by assumption) (Nat.le_of_ble_eq_true rfl) rfl  ?_
      refine st td_ok rfl rfl rfl rfl (r := .v _) rfl trivial ?_
      refine st_own (r := .v _) td_ok rfl rfl rfl rfl rfl rfl rfl (by assumption) (Nat.le_of_ble_eq_true rfl) rfl  ?_
      refine st td_ok rfl rfl rfl rfl (r := .v _) rfl trivial ?_
      refine st td_ok rfl rfl rfl rfl (r := .v _) rfl trivial ?_
      (refine sgk0 td_ok rfl rfl rfl rfl rfl rfl (r := .v _) rfl ?_ ?_; · exact fun hg => ⟨by (repeat' (first | exact trivial | exact hg | exact (Bool.and_eq_true_iff.mp hg).1 | apply And.intro)), by exact trivial⟩)
      refine sgk_own (r := .v _) td_ok rfl rfl rfl rfl rfl rfl rfl rfl rfl (by assumption) (fun hg => by (repeat' (first | exact trivial | exact hg | exact (Bool.and_eq_true_iff.mp hg).1 | apply And.intro))) (Nat.le_of_ble_eq_true rfl) rfl ?_
      (refine sgk0 td_ok rfl rfl rfl rfl rfl rfl (r := .v _) rfl ?_ ?_; · exact fun hg => ⟨by (repeat' (first | exact trivial | exact hg | exact (Bool.and_eq_true_iff.mp hg).1 | apply And.intro)), by exact trivial⟩)
      refine sgk_own (r := .v _) td_ok rfl rfl rfl rfl rfl rfl rfl rfl rfl (by assumption) (fun hg => by (repeat' (first | exact trivial | exact hg | exact (Bool.and_eq_true_iff.mp hg).1 | apply And.intro))) (Nat.le_of_ble_eq_true rfl) rfl ?_
      (refine sgk0 td_ok rfl rfl rfl rfl rfl rfl (r := .v _) rfl ?_ ?_; · exact fun hg => ⟨by (repeat' (first | exact trivial | exact hg | exact (Bool.and_eq_true_iff.mp hg).1 | apply And.intro)), by exact trivial⟩)
      (refine st td_ok rfl rfl rfl rfl (r := .v _) rfl ?_ ?_; · exact (fun h => h))
      refine st td_ok rfl rfl rfl rfl (r := .v _) rfl trivial ?_
      (refine sgk0 td_ok rfl rfl rfl rfl rfl rfl (r := .v _) rfl ?_ ?_; · exact fun hg => ⟨by (repeat' (first | exact trivial | exact hg | exact (Bool.and_eq_true_iff.mp hg).1 | apply And.intro)), by exact trivial⟩)
      refine sgk_own (r := .sl _ _ _) td_ok rfl rfl rfl rfl rfl rfl rfl rfl rfl (by assumption) (fun hg => by (repeat' (first | exact trivial | exact hg | exact (Bool.and_eq_true_iff.mp hg).1 | apply And.intro))) (Nat.le_of_ble_eq_true rfl) rfl ?_
      (refine sgk0 td_ok rfl rfl rfl rfl rfl rfl (r := .v _) rfl ?_ ?_; · exact fun hg => ⟨by (repeat' (first | exact trivial | exact hg | exact (Bool.and_eq_true_iff.mp hg).1 | apply And.intro)), by exact trivial⟩)
      refine sgk_own (r := .sl _ _ _) td_ok rfl rfl rfl rfl rfl rfl rfl rfl rfl (by assumption) (fun hg => by (repeat' (first | exact trivial | exact hg | exact (Bool.and_eq_true_iff.mp hg).1 | apply And.intro))) (Nat.le_of_ble_eq_true rfl) rfl ?_
      (refine sgk0 td_ok rfl rfl rfl rfl rfl rfl (r := .v _) rfl ?_ ?_; · exact fun hg => ⟨by (repeat' (first | exact trivial | exact hg | exact (Bool.and_eq_true_iff.mp hg).1 | apply And.intro)), by exact trivial⟩)
      (refine sgk0 td_ok rfl rfl rfl rfl rfl rfl (r := .clo _ _ _) rfl ?_ ?_; · exact fun hg => ⟨by (repeat' (first | exact trivial | exact hg | exact (Bool.and_eq_true_iff.mp hg).1 | apply And.intro)), by exact trivial⟩)
      refine stg_acall (K := fun b X' => b = (eqF matchF s l l').2 ∧ MInv X' m (eqF matchF s l l').1) rfl rfl rfl rfl rfl rfl rfl rfl (fun hg => ⟨by (repeat' (first | exact trivial | exact hg | exact (Bool.and_eq_true_iff.mp hg).1 | apply And.intro)), rfl, ⟨_, rfl, rfl, rfl⟩, ?_⟩) fun b29 X29 hy29 hn29 => ?_
      · exact EqualFunc_of (fun X s => MInv X m s) (fun X s r o h hr => MInv.put h hr) matchF 20 [.v (.pointer (some ⟨m, 0, none⟩))] [] l l' false false (by omega) fok20 (fun j X s hj hj2 hI => ih (l.getD j ty0) (l'.getD j ty0) X m s (by have := Ty.sizes_get l j hj; simp only [Ty.size] at hsz; omega) (by have := Ty.sizes_get l j hj; omega) (by have := Ty.sizes_get l' j hj2; omega) hI) Y s ⟨fs0, ts0, hM'⟩
      (refine st td_ok rfl rfl rfl rfl (r := .v _) rfl ?_ ?_; · exact (fun h => h))
      refine st td_ok rfl rfl rfl rfl (r := .v _) rfl trivial ?_
      refine AOps_nil ?_
      refine qn ?_
      refine AWP_ret ?_
      refine qr ?_
      refine ⟨_, _, _, _, rfl, trivial, (GS.refl _ _), ?_⟩
      first | show AV.v _ = _ | show AV.tup _ = _ | show AV.sl _ _ _ = _ | show AV.agg _ = _ | skip
      have hF : matchF s (Ty.mk k n l) (Ty.mk k' n' l') = if (bif k == k' then n == n' else false) then eqF matchF s l l' else (s, false) := by
        simp only [matchF]
        rw [if_pos hk4]
        unfold eqF
        rw [foldF_match]
      refine ⟨_, rfl, ?_, ?_⟩
      · show (bif (bif k == k' then n == n' else false) then b29 else false) = _
        rw [hF]
        cases hB : (bif k == k' then n == n' else false) with
        | true => exact (hy29 hB).1
        | false => rfl
      · rw [hF]
        cases hB : (bif k == k' then n == n' else false) with
        | true => exact (hy29 hB).2
        | false =>
          rw [hn29 hB]
          exact ⟨fs0, ts0, hM'⟩
    ·
      have hk4 : k = 4 := by simpa using h0
      refine AWP_skip ?_
      refine qn ?_
      refine AWP_seq ?_
      refine AWP_seq ?_
      refine AWP_region ?_
      refine st td_ok rfl rfl rfl rfl (r := .v _) rfl trivial ?_
      refine st_own (r := .v _) td_ok rfl rfl rfl rfl rfl rfl rfl (by assumption) (Nat.le_of_ble_eq_true rfl) rfl  ?_
      refine st td_ok rfl rfl rfl rfl (r := .v _) rfl trivial ?_
      refine st td_ok rfl rfl rfl rfl (r := .v _) rfl trivial ?_
      (refine sgk0 td_ok rfl rfl rfl rfl rfl rfl (r := .v _) rfl ?_ ?_; · exact fun hg => ⟨by (repeat' (first | exact trivial | exact hg | exact (Bool.and_eq_true_iff.mp hg).1 | apply And.intro)), by exact trivial⟩)
      refine sgk_own (r := .v _) td_ok rfl rfl rfl rfl rfl rfl rfl rfl rfl (by assumption) (fun hg => by (repeat' (first | exact trivial | exact hg | exact (Bool.and_eq_true_iff.mp hg).1 | apply And.intro))) (Nat.le_of_ble_eq_true rfl) rfl ?_
      (refine sgk0 td_ok rfl rfl rfl rfl rfl rfl (r := .v _) rfl ?_ ?_; · exact fun hg => ⟨by (repeat' (first | exact trivial | exact hg | exact (Bool.and_eq_true_iff.mp hg).1 | apply And.intro)), by exact trivial⟩)
      (refine st td_ok rfl rfl rfl rfl (r := .v _) rfl ?_ ?_; · first | (simp_all; done) | ((repeat' with_reducible apply And.intro) <;> with_reducible exact trivial))
      refine AOps_nil ?_
      refine qn ?_
      refine AWP_cond rfl rfl (fun h1 => ?_) (fun h1 => ?_)
      ·
        have hF : matchF s (Ty.mk k n l) (Ty.mk k' n' l') = (s, false) := by simp only [matchF]; rw [if_neg (by simpa using hk4), if_pos h1]
        refine AWP_seq ?_
        refine AWP_region ?_
        refine st td_ok rfl rfl rfl rfl (r := .v _) rfl trivial ?_
        refine AOps_nil ?_
        refine qn ?_
        refine AWP_ret ?_
        refine qr ?_
        refine ⟨_, _, _, _, rfl, trivial, (GS.refl _ _), ?_⟩
        first | show AV.v _ = _ | show AV.tup _ = _ | show AV.sl _ _ _ = _ | show AV.agg _ = _ | skip
        exact ⟨_, rfl, by rw [hF], by rw [hF]; exact ⟨fs0, ts0, hM'⟩⟩
      ·
        obtain ⟨hn0, hn1⟩ := or_no h1
        simp only [decide_eq_false_iff_not] at hn0 hn1
        have hF : matchF s (Ty.mk k n l) (Ty.mk k' n' l') = if (grow s n.toNat).found.getD n.toNat false then (grow s n.toNat, tyEq ((grow s n.toNat).types.getD n.toNat ty0) (.mk k' n' l')) else (setM (grow s n.toNat) n.toNat (.mk k' n' l'), true) := by simp only [matchF]; rw [if_neg (by simpa using hk4), if_neg (fun e => absurd (h1.symm.trans e) (by simp))]
        clear h1
        refine AWP_skip ?_
        refine qn ?_
        refine AWP_seq ?_
        refine AWP_block ?_
        refine AWP_for (fun (x : MS × AV × AV) => [(0, .v (.pointer (some ⟨m, 0, none⟩))), (4, .v (.pointer (some ⟨r4, 0, none⟩))), (5, .v (.pointer (some ⟨r5, 0, none⟩)))]) (fun x X => M4 X m x.1 x.2.1 x.2.2 ∧ X r4 = some ⟨25, (Ty.mk k n l).enc⟩ ∧ X r5 = some ⟨25, (Ty.mk k' n' l').enc⟩ ∧ ¬ x.2.1.at? r4 ∧ ¬ x.2.1.at? r5 ∧ ¬ x.2.2.at? r4 ∧ ¬ x.2.2.at? r5 ∧ grow x.1 n.toNat = grow s n.toNat) (fun x => n.toNat + 1 - x.1.types.length) (s, fs0, ts0) ⟨by (repeat' (first | exact rfl | exact trivial | apply And.intro)), ⟨hM', hX4, hX5, hf4, hf5, ht4, ht5, rfl⟩⟩ ?_
        rintro ⟨s1, fs, ts⟩ X1 ⟨hM1, hX4, hX5, hf4, hf5, ht4, ht5, hgr⟩
        try dsimp only at *
        refine AWP_seq ?_
        refine AWP_seq ?_
        refine AWP_drawn rfl rfl rfl rfl ?_
        refine es td_ok rfl rfl rfl (r := .v _) rfl trivial (rfl) ?_
        refine es td_ok rfl rfl rfl (r := .v _) rfl trivial (rfl) ?_
        refine es td_ok rfl rfl rfl (r := .v _) rfl trivial (rfl) ?_
        refine es_own (r := ts) td_ok rfl rfl rfl rfl rfl rfl hM1.at_ (Nat.le_of_ble_eq_true rfl) rfl ?_
        refine es_len td_ok rfl rfl rfl rfl rfl hM1.own2 ?_
        refine es td_ok rfl rfl rfl (r := .v _) rfl trivial (rfl) ?_
        refine es_own (r := .v _) td_ok rfl rfl rfl rfl rfl rfl (by assumption) (Nat.le_of_ble_eq_true rfl) rfl ?_
        refine es td_ok rfl rfl rfl (r := .v _) rfl trivial (rfl) ?_
        refine AOps_nil ?_
        refine qn ?_
        refine AWP_cond rfl rfl (fun h2 => ?_) (fun h2 => ?_)
        ·
          refine AWP_skip ?_
          refine qn ?_
          refine AWP_block ?_
          have hle : s1.types.length ≤ n.toNat := by simp only [decide_eq_true_eq] at h2; omega
          have hfe := hM1.few
          have h4m : r4 ≠ m := by rintro rfl; have := hM1.at_; rw [hX4] at this; simp at this
          have h5m : r5 ≠ m := by rintro rfl; have := hM1.at_; rw [hX5] at this; simp at this
          refine AWP_par rfl td_ok [(0, .D), (1, .D), (2, .D), (3, .D), (4, .D), (5, .D), (6, .D), (7, .D), (9, .D), (10, .D), (11, .D), (12, .D), (13, .D), (15, .D), (16, .D), (18, .D), (19, .D), (8, .W), (14, .W), (17, .W), (20, .W)] [(5, fun X' => X' m = some ⟨49, [fs, ts]⟩), (12, fun X' => X' m = some ⟨49, [fs, ts]⟩)] rfl rfl rfl rfl ?_
          refine gs td_ok rfl rfl rfl (r := .v _) (fun _ _ => rfl) trivial trivial (rfl) ?_
          refine gs td_ok rfl rfl rfl (r := .v _) (fun _ _ => rfl) trivial trivial (rfl) ?_
          refine gs td_ok rfl rfl rfl (r := .v _) (fun _ _ => rfl) trivial trivial (rfl) ?_
          refine gs td_ok rfl rfl rfl (r := .v _) (fun _ _ => rfl) trivial trivial (rfl) ?_
          refine gs td_ok rfl rfl rfl (r := .v _) (fun _ _ => rfl) trivial trivial (rfl) ?_
          refine gs_own (r := ts) td_ok rfl rfl rfl rfl rfl rfl (fun X' hX' => hX') hM1.at_ (Nat.le_of_ble_eq_true rfl) rfl ?_
          refine gsl td_ok rfl rfl rfl (fun _ _ => rfl) trivial (r' := .agg [.v (.int .i64 3), .v (.int .i64 0), .sl false 0 []]) ?_ (Le.agg (LeL.cons (Le.refl _) (LeL.cons (Le.refl _) (LeL.cons (Le.sl (LeL.refl _)) (LeL.refl _))))) ?_
          · ((repeat' with_reducible apply And.intro) <;> (first | with_reducible exact trivial | exact rfl | exact Nat.le_of_ble_eq_true rfl))
          refine gs_lit td_ok rfl rfl rfl  rfl rfl rfl rfl rfl (by decide) (cs := [.v _, .v _, _]) rfl (by ((repeat' with_reducible apply And.intro) <;> (first | with_reducible exact trivial | exact rfl))) trivial ?_
          refine gs td_ok rfl rfl rfl (r := .v _) (fun _ _ => rfl) trivial trivial (rfl) ?_
          refine gs td_ok rfl rfl rfl (r := .v _) (fun _ _ => rfl) trivial trivial (rfl) ?_
          refine gs td_ok rfl rfl rfl (r := .v _) (fun _ _ => rfl) trivial trivial (rfl) ?_
          refine gs_own (r := fs) td_ok rfl rfl rfl rfl rfl rfl (fun X' hX' => hX') hM1.at_ (Nat.le_of_ble_eq_true rfl) rfl ?_
          refine gs_lit td_ok rfl rfl rfl  rfl rfl rfl rfl rfl (by decide)  rfl (by ((repeat' with_reducible apply And.intro) <;> (first | with_reducible exact trivial | exact rfl))) trivial ?_
          refine gs td_ok rfl rfl rfl (r := .v _) (fun _ _ => rfl) trivial trivial (rfl) ?_
          refine gs td_ok rfl rfl rfl (r := .v _) (fun _ _ => rfl) trivial trivial (rfl) ?_
          refine gs td_ok rfl rfl rfl (r := .v _) (fun _ _ => rfl) trivial trivial (rfl) ?_
          refine gs td_ok rfl rfl rfl (r := .v _) (fun _ _ => rfl) trivial trivial (rfl) ?_
          refine gs_append td_ok rfl rfl rfl rfl rfl rfl rfl rfl rfl (.inl ⟨_, rfl⟩) (by decide) hM1.own2 rfl rfl rfl (by show (s1.types.length + 1) * 40 ≤ _; omega) fun a55 X55 ho55 hr55 ha55 => ⟨⟨trivial, fun h => hr55 m _ h hM1.n2, trivial⟩, ?_⟩
          refine gs_append td_ok rfl rfl rfl rfl rfl rfl rfl rfl rfl (.inl ⟨_, rfl⟩) (by decide) (Own.kept hM1.own1 hr55 hM1.dis) rfl rfl rfl (by show (s1.found.length + 1) * 1 ≤ _; have := hM1.len; omega) fun a61 X61 ho61 hr61 ha61 => ⟨(by repeat (first | exact trivial | refine ⟨?_, ?_⟩ | exact fun h => h)), ?_⟩
          refine gs_store td_ok rfl rfl rfl rfl rfl (hr61 m _ (hr55 m _ hM1.at_ hM1.n2) hM1.n1) rfl ⟨rfl, Own.one ho55⟩ (Nat.le_of_ble_eq_true rfl)  rfl rfl (by repeat (first | exact trivial | refine ⟨?_, ?_⟩ | exact fun h => h)) ?_
          refine gs_store td_ok rfl rfl rfl rfl rfl XH.put_same rfl ⟨rfl, Own.one ho61⟩ (Nat.le_of_ble_eq_true rfl)  rfl rfl (by repeat (first | exact trivial | refine ⟨?_, ?_⟩ | exact fun h => h)) ?_
          refine gs_nil ?_
          refine qbn ?_
          refine qn ?_
          have hx55 : ∀ q o, X1 q = some o → ¬ ts.at? q → X55 q = some o := fun q o h hn => hr55 q o h hn
          have hx61 : ∀ q o, X1 q = some o → ¬ ts.at? q → ¬ fs.at? q → X61 q = some o := fun q o h hn hn2 => hr61 q o (hr55 q o h hn) hn2
          have hn55 : ∀ q o, X1 q = some o → ¬ ts.at? q → ¬ a55.at? q := by
            intro q o h hn hc
            rcases ha55 q hc with h5 | h5
            · rw [h] at h5; exact absurd h5 (by simp)
            · exact hn h5
          have hn61 : ∀ q o, X1 q = some o → ¬ ts.at? q → ¬ fs.at? q → ¬ a61.at? q := by
            intro q o h hn hn2 hc
            rcases ha61 q hc with h5 | h5
            · rw [hx55 q o h hn] at h5; exact absurd h5 (by simp)
            · exact hn2 h5
          have hfa : ∀ q, a55.at? q → ¬ fs.at? q := by
            intro q hq hf
            rcases ha55 q hq with h5 | h5
            · exact Own.held hM1.own1 hf h5
            · exact hM1.dis q hf h5
          have hdis : ∀ q, a61.at? q → ¬ a55.at? q := by
            intro q hq hq2
            rcases ha61 q hq with h5 | h5
            · exact Own.held ho55 hq2 h5
            · exact hfa q hq2 h5
          have ha61m := hn61 m _ hM1.at_ hM1.n2 hM1.n1
          have ha55m := hn55 m _ hM1.at_ hM1.n2
          refine ⟨(grow1 s1, a61, a55), ?_, by (repeat' (first | exact rfl | exact trivial | apply And.intro)), ⟨?_, ?_, ?_, XH.put_same, ?_, ?_, ha61m, ha55m, hdis⟩, XH.put_ne h4m (XH.put_ne h4m (hx61 r4 _ hX4 ht4 hf4)), XH.put_ne h5m (XH.put_ne h5m (hx61 r5 _ hX5 ht5 hf5)), hn61 r4 _ hX4 ht4 hf4, hn61 r5 _ hX5 ht5 hf5, hn55 r4 _ hX4 ht4, hn55 r5 _ hX5 ht5, by dsimp only; rw [grow_step hle]; exact hgr⟩
          · simp only [grow1, List.length_append, List.length_cons, List.length_nil]; omega
          · simp only [grow1, List.length_append]; rw [hM1.len]; rfl
          · simp only [grow1, List.length_append, List.length_cons, List.length_nil]; omega
          · intro t ht
            simp only [grow1, List.mem_append, List.mem_singleton] at ht
            rcases ht with ht | rfl
            · exact hM1.small t ht
            · simp [unitT, Ty.size, Ty.sizes]
          · simp only [grow1, List.length_append]
            rw [← bools_app]
            exact Own.put (Own.put ho61 ha61m) ha61m
          · simp only [grow1, List.length_append]
            rw [Ty.encs_app, Ty.encs_one]
            exact Own.put (Own.put (Own.kept ho55 hr61 hfa) ha55m) ha55m
        ·
          refine AWP_exit ?_
          refine qx ?_
          refine qx ?_
          refine qbh ?_
          refine qn ?_
          refine AWP_seq ?_
          refine AWP_seq ?_
          have hlt : n.toNat < s1.types.length := by simp only [decide_eq_false_iff_not] at h2; omega
          have hlen := hM1.len
          rw [grow_end hlt] at hgr
          rw [← hgr] at hF
          have hsm : (s1.types.getD n.toNat ty0).size ≤ 1000000 := hM1.small _ (by rw [List.getD_eq_getElem?_getD, List.getElem?_eq_getElem hlt]; exact List.getElem_mem hlt)
          obtain ⟨q1, c1, pad1, rfl, hq1, hc1, hp1, hl1⟩ := Own.some hM1.own1 (by omega)
          obtain ⟨q2, c2, pad2, rfl, hq2, hc2, hp2, hl2⟩ := Own.some hM1.own2 (by omega)
          have h12 : q1 ≠ q2 := hM1.dis q1 rfl
          have h4q2 : r4 ≠ q2 := ht4
          have hb1 : 0 + n.toNat * 1 + 1 ≤ (bools s1.found ++ pad1).length := by rw [List.length_append, bools_len]; omega
          have hb2 : 0 + n.toNat * 3 + 3 ≤ (Ty.encs s1.types ++ pad2).length := by rw [List.length_append, Ty.encs_len]; omega
          refine AWP_drawn rfl rfl rfl rfl ?_
          refine es td_ok rfl rfl rfl (r := .v _) rfl trivial (rfl) ?_
          refine es td_ok rfl rfl rfl (r := .v _) rfl trivial (rfl) ?_
          refine es td_ok rfl rfl rfl (r := .v _) rfl trivial (rfl) ?_
          refine es_own (r := .v _) td_ok rfl rfl rfl rfl rfl rfl hM1.at_ (Nat.le_of_ble_eq_true rfl) rfl ?_
          refine es td_ok rfl rfl rfl (r := .v _) rfl trivial (rfl) ?_
          refine es_own (r := .v _) td_ok rfl rfl rfl rfl rfl rfl (by assumption) (Nat.le_of_ble_eq_true rfl) rfl ?_
          (refine es td_ok rfl rfl rfl (r := .v _) rfl ?_ (rfl) ?_; · ((repeat' with_reducible apply And.intro) <;> omega))
          refine es_own td_ok rfl rfl rfl rfl rfl rfl hq1 hb1 (bools_cell s1.found pad1 n.toNat (by omega) _) ?_
          refine AOps_nil ?_
          refine qn ?_
          refine AWP_cond rfl rfl (fun h3 => ?_) (fun h3 => ?_)
          ·
            rw [if_pos h3] at hF
            refine AWP_seq ?_
            refine AWP_drawn rfl rfl rfl rfl ?_
            refine es td_ok rfl rfl rfl (r := .v _) rfl trivial (rfl) ?_
            refine es td_ok rfl rfl rfl (r := .v _) rfl trivial (rfl) ?_
            refine es td_ok rfl rfl rfl (r := .v _) rfl trivial (rfl) ?_
            refine es_own (r := .v _) td_ok rfl rfl rfl rfl rfl rfl hM1.at_ (Nat.le_of_ble_eq_true rfl) rfl ?_
            refine es td_ok rfl rfl rfl (r := .v _) rfl trivial (rfl) ?_
            refine es_own (r := .v _) td_ok rfl rfl rfl rfl rfl rfl (by assumption) (Nat.le_of_ble_eq_true rfl) rfl ?_
            (refine es td_ok rfl rfl rfl (r := .v _) rfl ?_ (rfl) ?_; · ((repeat' with_reducible apply And.intro) <;> omega))
            refine es_own td_ok rfl rfl rfl rfl rfl rfl hq2 hb2 (encs_cells s1.types pad2 n.toNat hlt _) ?_
            refine es_own (r := .agg [.v _, .v _, _]) td_ok rfl rfl rfl rfl rfl rfl (by assumption) (Nat.le_of_ble_eq_true rfl) rfl ?_
            refine es_call rfl rfl rfl rfl rfl rfl ⟨_, rfl, rfl, rfl⟩ (Equal_c _ (s1.types.getD n.toNat ty0) (Ty.mk k' n' l') (Nat.lt_succ_self _) (by omega)) ?_
            refine es td_ok rfl rfl rfl (r := .v _) rfl trivial (rfl) ?_
            refine AOps_nil ?_
            refine qn ?_
            refine AWP_ret ?_
            refine qr ?_
            refine ⟨_, _, _, _, rfl, trivial, (GS.refl _ _), ?_⟩
            first | show AV.v _ = _ | show AV.tup _ = _ | show AV.sl _ _ _ = _ | show AV.agg _ = _ | skip
            exact ⟨_, rfl, by rw [hF], by rw [hF]; exact ⟨_, _, hM1⟩⟩
          ·
            rw [if_neg (by rw [h3]; simp)] at hF
            refine AWP_skip ?_
            refine qn ?_
            refine AWP_seq ?_
            refine AWP_par rfl td_ok [(0, .D), (1, .D), (2, .D), (3, .D), (4, .D), (5, .D), (6, .D), (7, .D), (8, .D), (9, .D), (10, .D), (11, .D), (12, .D), (13, .D), (14, .D), (16, .D), (15, .W), (17, .W)] [(3, fun X' => X' m = some ⟨49, [.v (.slice (some ⟨q1, 0, none⟩) s1.found.length c1), .v (.slice (some ⟨q2, 0, none⟩) s1.types.length c2)]⟩), (9, fun X' => X' m = some ⟨49, [.v (.slice (some ⟨q1, 0, none⟩) s1.found.length c1), .v (.slice (some ⟨q2, 0, none⟩) s1.types.length c2)]⟩), (5, fun X' => X' r4 = some ⟨25, (Ty.mk k n l).enc⟩), (11, fun X' => X' r4 = some ⟨25, (Ty.mk k n l).enc⟩), (12, fun X' => X' r5 = some ⟨25, (Ty.mk k' n' l').enc⟩)] rfl rfl rfl rfl ?_
            refine gs td_ok rfl rfl rfl (r := .v _) (fun _ _ => rfl) trivial trivial (rfl) ?_
            refine gs td_ok rfl rfl rfl (r := .v _) (fun _ _ => rfl) trivial trivial (rfl) ?_
            refine gs td_ok rfl rfl rfl (r := .v _) (fun _ _ => rfl) trivial trivial (rfl) ?_
            refine gs_own (r := .v _) td_ok rfl rfl rfl rfl rfl rfl (fun X' hX' => hX') hM1.at_ (Nat.le_of_ble_eq_true rfl) rfl ?_
            refine gs td_ok rfl rfl rfl (r := .v _) (fun _ _ => rfl) trivial trivial (rfl) ?_
            refine gs_own (r := .v _) td_ok rfl rfl rfl rfl rfl rfl (fun X' hX' => hX') (by first | assumption | exact XH.put_same | exact XH.put_ne (by assumption) (by assumption)) (Nat.le_of_ble_eq_true rfl) rfl ?_
            refine gs td_ok rfl rfl rfl (r := .v _) (fun _ _ => rfl) trivial trivial (rfl) ?_
            refine gs td_ok rfl rfl rfl (r := .v _) (fun _ _ => rfl) trivial trivial (rfl) ?_
            refine gs td_ok rfl rfl rfl (r := .v _) (fun _ _ => rfl) trivial trivial (rfl) ?_
            refine gs_own (r := .v _) td_ok rfl rfl rfl rfl rfl rfl (fun X' hX' => hX') hM1.at_ (Nat.le_of_ble_eq_true rfl) rfl ?_
            refine gs td_ok rfl rfl rfl (r := .v _) (fun _ _ => rfl) trivial trivial (rfl) ?_
            refine gs_own (r := .v _) td_ok rfl rfl rfl rfl rfl rfl (fun X' hX' => hX') (by first | assumption | exact XH.put_same | exact XH.put_ne (by assumption) (by assumption)) (Nat.le_of_ble_eq_true rfl) rfl ?_
            refine gs_own (r := .agg [.v _, .v _, _]) td_ok rfl rfl rfl rfl rfl rfl (fun X' hX' => hX') (by first | assumption | exact XH.put_same | exact XH.put_ne (by assumption) (by assumption)) (Nat.le_of_ble_eq_true rfl) rfl ?_
            refine gs_pcall rfl rfl rfl rfl rfl rfl ⟨_, rfl, rfl, rfl⟩ trivial (clone_c (Ty.mk k' n' l') (by simp only [Ty.size]; omega)) ?_
            (refine gs td_ok rfl rfl rfl (r := .v _) (fun _ _ => rfl) trivial ?_ (rfl) ?_; · ((repeat' with_reducible apply And.intro) <;> omega))
            (refine gs td_ok rfl rfl rfl (r := .v _) (fun _ _ => rfl) trivial ?_ (rfl) ?_; · ((repeat' with_reducible apply And.intro) <;> omega))
            refine gs_store td_ok rfl rfl rfl rfl rfl hq2 rfl ⟨rfl, rfl⟩ hb2 rfl rfl ⟨trivial, trivial, trivial, fun h => XH.put_ne h4q2 h, trivial, trivial⟩ ?_
            refine gs_store td_ok rfl rfl rfl rfl rfl (XH.put_ne h12 hq1) rfl ⟨rfl, rfl⟩ hb1 rfl rfl ⟨trivial, trivial, trivial, trivial, trivial, trivial⟩ ?_
            refine gs_nil ?_
            refine qn ?_
            refine AWP_seq ?_
            refine AWP_region ?_
            refine st td_ok rfl rfl rfl rfl (r := .v _) rfl trivial ?_
            refine AOps_nil ?_
            refine qn ?_
            refine AWP_ret ?_
            refine ⟨_, _, _, _, rfl, trivial, (GS.refl _ _), ?_⟩
            first | show AV.v _ = _ | show AV.tup _ = _ | show AV.sl _ _ _ = _ | show AV.agg _ = _ | skip
            refine ⟨_, rfl, by rw [hF], ?_⟩
            rw [hF]
            have w1 := fun X => Own.write (X := X) (e := 4) (sz := 1) (n := s1.found.length) (c := c1) (q := q1) (cs := bools s1.found) (pad := pad1) (m := [.v (.bool true)]) hl1 hc1 hp1 (k := 0 + n.toNat * 1) (by rw [bools_len]; simp only [List.length_cons, List.length_nil]; omega)
            have w2 := Own.write (X := X1) (e := 25) (sz := 3) (n := s1.types.length) (c := c2) (q := q2) (cs := Ty.encs s1.types) (pad := pad2) (m := (Ty.mk k' n' l').enc) hl2 hc2 hp2 (k := 0 + n.toNat * 3) (by rw [Ty.encs_len, Ty.enc_len]; omega)
            have e1 : splice (bools s1.found) (0 + n.toNat * 1) [.v (.bool true)] = bools (s1.found.set n.toNat true) := by
              rw [Nat.zero_add]; exact flat_splice (fun b : Bool => [AV.v (.bool b)]) (fun _ => rfl) s1.found n.toNat true (by omega)
            have e2 : splice (Ty.encs s1.types) (0 + n.toNat * 3) (Ty.mk k' n' l').enc = Ty.encs (s1.types.set n.toNat (Ty.mk k' n' l')) := by
              rw [Nat.zero_add, Ty.encs_flat, Ty.encs_flat]; exact flat_splice Ty.enc Ty.enc_len s1.types n.toNat _ hlt
            rw [e1] at w1
            rw [e2] at w2
            have hmq1 : m ≠ q1 := hM1.n1
            have hmq2 : m ≠ q2 := hM1.n2
            refine ⟨.v (.slice (some ⟨q1, 0, none⟩) s1.found.length c1), .v (.slice (some ⟨q2, 0, none⟩) s1.types.length c2), ⟨?_, ?_, ?_, XH.put_ne hmq1 (XH.put_ne hmq2 hM1.at_), ?_, ?_, hM1.n1, hM1.n2, hM1.dis⟩⟩
            · simp only [setM, List.length_set]; exact hlen
            · simp only [setM, List.length_set]; exact hM1.few
            · intro t ht
              rcases List.mem_or_eq_of_mem_set ht with ht | rfl
              · exact hM1.small t ht
              · simp only [Ty.size]; omega
            · simp only [setM, List.length_set]
              exact w1 _
            · simp only [setM, List.length_set]
              exact Own.put w2 h12
end Go.Proofs.Ytgnfjahkhhkmoaa.V
