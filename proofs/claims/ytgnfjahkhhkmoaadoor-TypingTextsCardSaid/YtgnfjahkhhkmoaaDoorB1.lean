import Derived.Test.YtgnfjahkhhkmoaaDoorA0
namespace Go.Proofs.YtgnfjahkhhkmoaaDoor.V
open Go
set_option linter.unusedSimpArgs false
set_option linter.unusedVariables false

/-- A type, as data. -/
inductive Ty where
  | mk (kind num : Int) (args : List Ty)
def ty0 : Ty := .mk 0 0 []
mutual
def Ty.enc : Ty → List AV
  | .mk k n l => [.v (.int .i64 k), .v (.int .i64 n), .sl false l.length (Ty.encs l)]
def Ty.encs : List Ty → List AV
  | [] => []
  | t :: l => t.enc ++ Ty.encs l
end
theorem Ty.encs_flat : ∀ l : List Ty, Ty.encs l = l.flatMap Ty.enc
  | [] => by simp [Ty.encs]
  | t :: l => by simp [Ty.encs, Ty.encs_flat l]
theorem Ty.enc_len : ∀ t : Ty, t.enc.length = 3
  | .mk k n l => by simp [Ty.enc]
theorem Ty.encs_len (l : List Ty) : (Ty.encs l).length = l.length * 3 := by rw [Ty.encs_flat]; exact flat_len _ 3 Ty.enc_len l
theorem Ty.at_lt (l : List Ty) (j : Nat) (h : j < l.length) (z : List Value) : AV.agg (cellsAt (Ty.encs l) (j * 3) 3 z) = AV.agg (l.getD j ty0).enc := by rw [Ty.encs_flat]; exact congrArg AV.agg (flat_at_lt _ ty0 Ty.enc_len l j h)
mutual
def Ty.size : Ty → Nat
  | .mk _ _ l => 1 + Ty.sizes l
def Ty.sizes : List Ty → Nat
  | [] => 0
  | t :: l => t.size + Ty.sizes l
end
theorem Ty.size_pos : ∀ t : Ty, 1 ≤ t.size
  | .mk _ _ l => by simp only [Ty.size]; omega
theorem Ty.sizes_len : ∀ l : List Ty, l.length ≤ Ty.sizes l
  | [] => by simp
  | t :: l => by have := Ty.sizes_len l; have := t.size_pos; simp only [Ty.sizes, List.length_cons]; omega
theorem Ty.sizes_get : ∀ (l : List Ty) (j : Nat), j < l.length → (l.getD j ty0).size ≤ Ty.sizes l
  | [], j, h => absurd h (by simp)
  | t :: l, 0, h => by simp only [Ty.sizes, List.getD_cons_zero]; omega
  | t :: l, j + 1, h => by
    have := Ty.sizes_get l j (by simpa using h)
    simp only [Ty.sizes, List.getD_cons_succ]; omega
theorem Ty.kid_lt {l : List Ty} {j : Nat} {k n : Int} (h : j < l.length) : (l.getD j ty0).size < (Ty.mk k n l).size := by
  have := Ty.sizes_get l j h
  simp only [Ty.size]; omega
mutual
def typF : Ty → Int → Bool × Int
  | .mk _ _ l, n => if n - 1 < 0 then (false, n - 1) else typsF l (n - 1)
def typsF : List Ty → Int → Bool × Int
  | [], n => (true, n)
  | t :: l, n => if (typF t n).1 then typsF l (typF t n).2 else (false, (typF t n).2)
end
mutual
theorem typF_le : ∀ (t : Ty) (n : Int), 0 ≤ n → -1 ≤ (typF t n).2 ∧ (typF t n).2 ≤ n ∧ ((typF t n).1 = true → 0 ≤ (typF t n).2)
  | .mk _ _ l, n, h => by
    simp only [typF]
    split
    · dsimp only; refine ⟨by omega, by omega, fun h => absurd h (by simp)⟩
    · have := typsF_le l (n - 1) (by omega); exact ⟨this.1, by omega, this.2.2⟩
theorem typsF_le : ∀ (l : List Ty) (n : Int), 0 ≤ n → -1 ≤ (typsF l n).2 ∧ (typsF l n).2 ≤ n ∧ ((typsF l n).1 = true → 0 ≤ (typsF l n).2)
  | [], n, h => by simp only [typsF]; omega
  | t :: l, n, h => by
    have h1 := typF_le t n h
    simp only [typsF]
    split
    · rename_i h2
      have := typsF_le l (typF t n).2 (h1.2.2 h2); exact ⟨this.1, by omega, this.2.2⟩
    · dsimp only; refine ⟨by omega, by omega, fun h => absurd h (by simp)⟩
end
theorem typF_lt : ∀ (t : Ty) (n : Int), 0 ≤ n → (typF t n).1 = true → (typF t n).2 < n
  | .mk _ _ l, n, h, hg => by
    simp only [typF] at hg ⊢
    split at hg
    · exact absurd hg (by simp)
    · rename_i h0
      rw [if_neg h0]
      have := typsF_le l (n - 1) (by omega); omega
theorem typsF_go {l : List Ty} {j : Nat} {n : Int} (h : j < l.length) (hg : (typF (l.getD j ty0) n).1 = true) : typsF (l.drop j) n = typsF (l.drop (j + 1)) (typF (l.getD j ty0) n).2 := by
  rw [List.getD_eq_getElem?_getD, List.getElem?_eq_getElem h, Option.getD_some] at hg ⊢
  rw [List.drop_eq_getElem_cons h]
  simp only [typsF]
  rw [if_pos hg]
theorem typsF_no {l : List Ty} {j : Nat} {n : Int} (h : j < l.length) (hg : (typF (l.getD j ty0) n).1 = false) : typsF (l.drop j) n = (false, (typF (l.getD j ty0) n).2) := by
  rw [List.getD_eq_getElem?_getD, List.getElem?_eq_getElem h, Option.getD_some] at hg ⊢
  rw [List.drop_eq_getElem_cons h]
  simp only [typsF]
  rw [if_neg (by rw [hg]; simp)]
def leftC (n : Int) : XB := ⟨3, [.v (.int .i64 n)]⟩
theorem typ_c (m : Nat) : ∀ (t : Ty) (n : Int) (r : Nat), t.size < m → 0 ≤ n → n ≤ 1000000 → ACalls Tryd.prog 10 [.agg t.enc, .v (.pointer (some ⟨r, 0, none⟩))] (XH.none.put r (leftC n)) (fun av X' => ∃ o', X' = XH.none.put r o' ∧ av = .v (.bool (typF t n).1) ∧ o' = leftC (typF t n).2) := by
  induction m with
  | zero => intro t n r h; omega
  | succ m ih =>
    rintro ⟨k, nu, l⟩ n r hsz hn hn2
    refine calls_body td_ok Tryd.func10 rfl rfl rfl ?_
    refine AWP_seq ?_
    refine AWP_region ?_
    refine st_box td_ok rfl rfl rfl rfl rfl rfl (by ((repeat' with_reducible apply And.intro) <;> exact rfl)) fun r2 hr2 => ?_
    refine st td_ok rfl rfl rfl rfl (r := .v _) rfl trivial ?_
    refine AOps_nil ?_
    refine qn ?_
    refine AWP_seq ?_
    have hne : r2 ≠ r := (XH.put_none hr2).1
    refine AWP_region ?_
    refine st td_ok rfl rfl rfl rfl (r := .v _) rfl trivial ?_
    refine st td_ok rfl rfl rfl rfl (r := .v _) rfl trivial ?_
    refine st_own (r := .v _) td_ok rfl rfl rfl rfl rfl rfl rfl (XH.put_ne (by (first | assumption | exact Ne.symm (by assumption) | (intro h; simp [XH.put, h] at *; done))) XH.put_same) (Nat.le_of_ble_eq_true rfl) rfl  ?_
    refine st_eq td_ok rfl rfl rfl rfl (r := .v _) rfl trivial (w64 (by omega)) ?_
    refine st td_ok rfl rfl rfl rfl (r := .v _) rfl trivial ?_
    refine st_store td_ok rfl rfl rfl rfl rfl rfl (XH.put_ne (by (first | assumption | exact Ne.symm (by assumption) | (intro h; simp [XH.put, h] at *; done))) XH.put_same) rfl (by ((repeat' with_reducible apply And.intro) <;> exact rfl)) (Nat.le_of_ble_eq_true rfl)  rfl rfl ?_
    refine AOps_nil ?_
    refine qn ?_
    refine AWP_seq ?_
    refine AWP_seq ?_
    rw [XH.put_swap (Ne.symm hne)]
    refine AWP_region ?_
    refine st td_ok rfl rfl rfl rfl (r := .v _) rfl trivial ?_
    refine st td_ok rfl rfl rfl rfl (r := .v _) rfl trivial ?_
    refine st_own (r := .v _) td_ok rfl rfl rfl rfl rfl rfl rfl (XH.put_ne (by (first | assumption | exact Ne.symm (by assumption) | (intro h; simp [XH.put, h] at *; done))) XH.put_same) (Nat.le_of_ble_eq_true rfl) rfl  ?_
    refine st td_ok rfl rfl rfl rfl (r := .v _) rfl trivial ?_
    refine AOps_nil ?_
    refine qn ?_
    refine AWP_cond rfl rfl (fun h0 => ?_) (fun h0 => ?_)
    ·
      refine AWP_seq ?_
      refine AWP_region ?_
      refine st td_ok rfl rfl rfl rfl (r := .v _) rfl trivial ?_
      refine AOps_nil ?_
      refine qn ?_
      refine AWP_ret ?_
      refine qr ?_
      refine ⟨_, _, _, _, rfl, trivial, (GS.sub (XH.put_sub (XH.put_ne hne rfl))), ?_⟩
      first | show AV.v _ = _ | show AV.tup _ = _ | show AV.sl _ _ _ = _ | show AV.agg _ = _ | skip
      have e : typF (.mk k nu l) n = (false, n - 1) := by simp only [typF]; rw [if_pos (by simpa using h0)]
      exact ⟨_, rfl, by rw [e]; first | done | rfl, by rw [e]; first | done | rfl⟩
    ·
      refine AWP_skip ?_
      refine qn ?_
      refine AWP_seq ?_
      refine AWP_seq ?_
      refine AWP_region ?_
      refine st td_ok rfl rfl rfl rfl (r := .v _) rfl trivial ?_
      refine AOps_nil ?_
      refine qn ?_
      refine AWP_block ?_
      refine AWP_for (fun (x : Nat × Int) => [(1, .v (.pointer (some ⟨r, 0, none⟩))), (2, .v (.pointer (some ⟨r2, 0, none⟩))), (5, .v (.int .i64 x.1))]) (fun x X => X = (XH.none.put r (leftC x.2)).put r2 ⟨25, (Ty.mk k nu l).enc⟩ ∧ x.1 ≤ l.length ∧ 0 ≤ x.2 ∧ x.1 + x.2 ≤ n - 1 ∧ typsF (l.drop x.1) x.2 = typsF l (n - 1)) (fun x => l.length - x.1) (0, n - 1) ⟨by (repeat' (first | exact rfl | exact trivial | apply And.intro)), ⟨rfl, Nat.zero_le _, by simp only [decide_eq_false_iff_not] at h0; omega, by simp only [Int.ofNat_zero]; omega, rfl⟩⟩ ?_
      rintro x X ⟨rfl, hx1, hx2, hx3, hx4⟩
      refine AWP_seq ?_
      refine AWP_seq ?_
      refine AWP_region ?_
      refine st td_ok rfl rfl rfl rfl (r := .v _) rfl trivial ?_
      refine st td_ok rfl rfl rfl rfl (r := .v _) rfl trivial ?_
      refine st_own (r := .sl _ _ _) td_ok rfl rfl rfl rfl rfl rfl rfl XH.put_same (Nat.le_of_ble_eq_true rfl) rfl  ?_
      refine st td_ok rfl rfl rfl rfl (r := .v _) rfl trivial ?_
      refine st td_ok rfl rfl rfl rfl (r := .v _) rfl trivial ?_
      refine AOps_nil ?_
      refine qn ?_
      refine AWP_cond rfl rfl (fun h1 => ?_) (fun h1 => ?_)
      ·
        refine AWP_skip ?_
        refine qn ?_
        refine AWP_seq ?_
        refine AWP_block ?_
        refine AWP_seq ?_
        have hlt : x.1 < l.length := Int.ofNat_lt.mp (of_decide_eq_true h1)
        have hlo := typF_le (l.getD x.1 ty0) x.2 hx2
        have hlo2 := typF_lt (l.getD x.1 ty0) x.2 hx2
        refine AWP_region ?_
        refine st td_ok rfl rfl rfl rfl (r := .v _) rfl trivial ?_
        refine st_own (r := .sl _ _ _) td_ok rfl rfl rfl rfl rfl rfl rfl XH.put_same (Nat.le_of_ble_eq_true rfl) rfl  ?_
        refine st td_ok rfl rfl rfl rfl (r := .v _) rfl trivial ?_
        (refine st td_ok rfl rfl rfl rfl (r := .pp _ _) rfl ?_ ?_; · ((repeat' with_reducible apply And.intro) <;> (first | omega | (simp only [Ty.encs_len, Ty.enc_len, cond_true, cond_false, nd, Option.getD_none, Option.getD_some, Int.toNat_natCast, strs_len, nums_len, List.length_append, tds2, tds3, tds4, tds5, tds9, tds12, tds21, tds22, tds23, tds24, tds25, tds30, tds31, tds32, tds33, tds34, tds36, tds43, tds45, tds47, tds57, tds62, tds66, tds69, decide_eq_true_eq, Bool.and_eq_true, Bool.not_eq_true', decide_eq_false_iff_not] at *; omega))))
        (refine st_eq td_ok rfl rfl rfl rfl (r := _) rfl ?_ ((Ty.at_lt l x.1 hlt _)) ?_; · ((repeat' with_reducible apply And.intro) <;> (simp only [Ty.encs_len, Ty.enc_len, cond_true, cond_false, nd, Option.getD_none, Option.getD_some, Int.toNat_natCast, strs_len, nums_len, List.length_append, tds2, tds3, tds4, tds5, tds9, tds12, tds21, tds22, tds23, tds24, tds25, tds30, tds31, tds32, tds33, tds34, tds36, tds43, tds45, tds47, tds57, tds62, tds66, tds69, decide_eq_true_eq, Bool.and_eq_true, Bool.not_eq_true', decide_eq_false_iff_not] at *; omega)))
        refine st td_ok rfl rfl rfl rfl (r := .v _) rfl trivial ?_
        refine st_call rfl rfl rfl rfl rfl rfl rfl ⟨_, rfl, rfl, rfl⟩ (ACalls.mono (ACalls.cell (ih (l.getD x.1 ty0) x.2 r (by have := Ty.kid_lt (k := k) (n := nu) hlt; omega) hx2 (by omega)) (XH.put_ne (Ne.symm hne) XH.put_same)) ?_)
        rintro av X' ⟨o', rfl, rfl, rfl⟩
        rw [XH.put_swap (Ne.symm hne)]
        refine st td_ok rfl rfl rfl rfl (r := .v _) rfl trivial ?_
        refine AOps_nil ?_
        refine qn ?_
        refine AWP_cond rfl rfl (fun h2 => ?_) (fun h2 => ?_)
        ·
          refine AWP_seq ?_
          refine AWP_region ?_
          refine st td_ok rfl rfl rfl rfl (r := .v _) rfl trivial ?_
          refine AOps_nil ?_
          refine qn ?_
          refine AWP_ret ?_
          refine qbr ?_
          refine qr ?_
          refine qr ?_
          refine qbr ?_
          refine qr ?_
          refine ⟨_, _, _, _, rfl, trivial, (GS.sub (XH.put_sub (XH.put_ne hne rfl))), ?_⟩
          first | show AV.v _ = _ | show AV.tup _ = _ | show AV.sl _ _ _ = _ | show AV.agg _ = _ | skip
          have e : typF (.mk k nu l) n = (false, (typF (l.getD x.1 ty0) x.2).2) := by
            simp only [typF]; rw [if_neg (by simpa using h0), ← hx4, typsF_no hlt (by simpa using h2)]
          exact ⟨_, rfl, by rw [e]; first | done | rfl, by rw [e]; first | done | rfl⟩
        ·
          refine AWP_skip ?_
          refine qbn ?_
          refine qn ?_
          refine AWP_region ?_
          refine st td_ok rfl rfl rfl rfl (r := .v _) rfl trivial ?_
          refine st_eq td_ok rfl rfl rfl rfl (r := .v _) rfl trivial (w64 (by omega)) ?_
          refine st td_ok rfl rfl rfl rfl (r := .v _) rfl trivial ?_
          refine AOps_nil ?_
          refine qn ?_
          refine ⟨(x.1 + 1, (typF (l.getD x.1 ty0) x.2).2), by dsimp only; omega, by (repeat' (first | exact rfl | exact trivial | apply And.intro)), ?_⟩
          have h2' : (typF (l.getD x.1 ty0) x.2).1 = true := by simpa using h2
          refine ⟨rfl, by dsimp only; omega, hlo.2.2 h2', by have := hlo2 h2'; dsimp only; omega, by dsimp only; rw [← hx4, typsF_go hlt h2']⟩
      ·
        refine AWP_exit ?_
        refine qx ?_
        refine qx ?_
        refine qbh ?_
        refine qn ?_
        refine AWP_seq ?_
        refine AWP_region ?_
        refine st td_ok rfl rfl rfl rfl (r := .v _) rfl trivial ?_
        refine AOps_nil ?_
        refine qn ?_
        refine AWP_ret ?_
        refine ⟨_, _, _, _, rfl, trivial, (GS.sub (XH.put_sub (XH.put_ne hne rfl))), ?_⟩
        first | show AV.v _ = _ | show AV.tup _ = _ | show AV.sl _ _ _ = _ | show AV.agg _ = _ | skip
        have e : typF (.mk k nu l) n = (true, x.2) := by
          simp only [typF]; rw [if_neg (by simpa using h0), ← hx4, List.drop_of_length_le (by simp only [decide_eq_false_iff_not] at h1; omega)]; rfl
        exact ⟨_, rfl, by rw [e]; first | done | rfl, by rw [e]; first | done | rfl⟩
end Go.Proofs.YtgnfjahkhhkmoaaDoor.V
