import Derived.Test.YtoiolofgcgkgiaaT5
import Derived.KernelRfl
namespace Go.Proofs.Ytoiolofgcgkgiaa.V
open Go
set_option linter.unusedSimpArgs false
set_option linter.unusedVariables false

def tok0 : Tok := ⟨0, ⟨#[]⟩, 0⟩
theorem cells_len (t : Tok) : t.cells.length = 3 := rfl
theorem toks_len (l : List Tok) : (toks l).length = l.length * 3 := flat_len _ 3 cells_len l
theorem toks_kind (l : List Tok) (j : Nat) : cellAt (toks l) (j * 3 + 0) [.int .i64 0] = .v (.int .i64 (l.getD j tok0).kind) :=
  flat_cell Tok.cells tok0 cells_len l j 0 (by decide) rfl
theorem toks_text (l : List Tok) (j : Nat) : cellAt (toks l) (j * 3 + 1) [.string ⟨#[]⟩] = .v (.string (l.getD j tok0).text) :=
  flat_cell Tok.cells tok0 cells_len l j 1 (by decide) rfl
theorem toks_pos (l : List Tok) (j : Nat) : cellAt (toks l) (j * 3 + 2) [.int .i64 0] = .v (.int .i64 (l.getD j tok0).pos) :=
  flat_cell Tok.cells tok0 cells_len l j 2 (by decide) rfl
theorem Rel.loose {p : PB} {w : World} {t : Bool} {n : Nat} {cs : List AV} {y : Value} (h : Rel p w (.sl t n cs) y) : Rel p w (.sl false n cs) y := by
  simp only [Rel] at h ⊢
  obtain ⟨A, c, e, h1, h2, h3⟩ := h
  exact ⟨A, c, e, h1, fun h => absurd h (by simp), h3⟩
theorem split_loose {f : FuncId} {s : ByteArray} (h : ACalls Try.prog f [.v (.string s)] XH.none (fun r _ => splitA s r)) {r : AV} (hr : ∀ p w r' v, splitA s r' → Rel p w r' v → Rel p w r v) : PCalls Try.prog f [.v (.string s)] r := by
  intro p w vs hv hx hb
  refine (h p w vs hv hx hb).mono ?_
  rintro e w' ⟨v, p', av, X', rfl, h1, h2, h3, h4, q⟩
  exact ⟨v, p', r, X', rfl, hr _ _ _ _ q h1, h2, h3, h4, rfl⟩
theorem ok_loose {s : ByteArray} {l : List Tok} (hs : splitP s = .ok l) : ∀ p w r' v, splitA s r' → Rel p w r' v → Rel p w (.tup [.sl false l.length (toks l), .v (.int .i64 0), .v (.int .i64 0)]) v := by
  intro p w r' v h hr
  unfold splitA at h
  rw [hs] at h
  obtain ⟨tt, rfl⟩ := h
  simp only [Rel] at hr
  obtain ⟨ys, rfl, hr⟩ := hr
  simp only [RelL] at hr
  obtain ⟨y, r, rfl, h1, h2⟩ := hr
  simp only [Rel]
  exact ⟨_, rfl, RelL.cons (Rel.loose h1) (by simp only [RelL]; exact h2)⟩
theorem err_loose {s : ByteArray} {i : Nat} {er : Int} (hs : splitP s = .err i er) : ∀ p w r' v, splitA s r' → Rel p w r' v → Rel p w (.tup [.sl true 0 [], .v (.int .i64 i), .v (.int .i64 er)]) v := by
  intro p w r' v h hr
  unfold splitA at h
  rw [hs] at h
  subst h
  exact hr
theorem split_ok {s : ByteArray} (hb : s.size < 2 ^ 47) {l : List Tok} (hs : splitP s = .ok l) : PCalls Try.prog 10 [.v (.string s)] (.tup [.sl false l.length (toks l), .v (.int .i64 0), .v (.int .i64 0)]) := split_loose (split_c s hb) (ok_loose hs)
theorem split_err {s : ByteArray} (hb : s.size < 2 ^ 47) {i : Nat} {e : Int} (hs : splitP s = .err i e) : PCalls Try.prog 10 [.v (.string s)] (.tup [.sl true 0 [], .v (.int .i64 i), .v (.int .i64 e)]) := split_loose (split_c s hb) (err_loose hs)
theorem rsplit_ok {s : ByteArray} (hb : s.size < 2 ^ 47) {l : List Tok} (hs : splitP s = .ok l) : PCalls Try.prog 11 [.v (.string s)] (.tup [.sl false l.length (toks l), .v (.int .i64 0), .v (.int .i64 0)]) := split_loose (rsplit_c s hb) (ok_loose hs)
theorem rsplit_err {s : ByteArray} (hb : s.size < 2 ^ 47) {i : Nat} {e : Int} (hs : splitP s = .err i e) : PCalls Try.prog 11 [.v (.string s)] (.tup [.sl true 0 [], .v (.int .i64 i), .v (.int .i64 e)]) := split_loose (rsplit_c s hb) (err_loose hs)
def awakeL : List Tok := [⟨1, ⟨#[97]⟩, 0⟩, ⟨5, ⟨#[60, 61]⟩, 1⟩, ⟨1, ⟨#[98]⟩, 3⟩, ⟨6, ⟨#[]⟩, 4⟩]
theorem awake_split : splitP ⟨#[97, 60, 61, 98]⟩ = .ok awakeL := by kernel_rfl
theorem awakeL_len : awakeL.length = 4 := rfl
theorem awake_c : PCalls Try.prog 12 [] (.v (.bool true)) := by
  refine calls_body td_ok Try.func12 rfl rfl rfl ?_
  refine AWP_seq ?_
  refine AWP_region ?_
  -- op 0.0 assign t0
  refine st td_ok rfl rfl rfl rfl (r := .v _) rfl trivial ?_
  refine AOps_nil ?_
  refine qn ?_
  refine AWP_seq ?_
  refine AWP_region ?_
  -- op 1.0 call t5
  refine st_pcall rfl rfl rfl rfl rfl rfl rfl ⟨_, rfl, rfl, rfl⟩ (split_ok (by decide) awake_split) ?_
  -- op 1.1 move t4
  refine st td_ok rfl rfl rfl rfl (r := .tup _) rfl trivial ?_
  -- op 1.2 extract t6
  refine st td_ok rfl rfl rfl rfl (r := .sl _ _ _) rfl trivial ?_
  -- op 1.3 extract t7
  refine st td_ok rfl rfl rfl rfl (r := .v _) rfl trivial ?_
  -- op 1.4 extract t8
  refine st td_ok rfl rfl rfl rfl (r := .v _) rfl trivial ?_
  -- op 1.5 assign t1
  refine st td_ok rfl rfl rfl rfl (r := .sl _ _ _) rfl trivial ?_
  -- op 1.6 assign t2
  refine st td_ok rfl rfl rfl rfl (r := .v _) rfl trivial ?_
  -- op 1.7 assign t3
  refine st td_ok rfl rfl rfl rfl (r := .v _) rfl trivial ?_
  refine AOps_nil ?_
  refine qn ?_
  refine AWP_seq ?_
  refine AWP_region ?_
  -- op 2.0 move t9
  refine st td_ok rfl rfl rfl rfl (r := .v _) rfl trivial ?_
  -- op 2.1 binOp t10
  refine st td_ok rfl rfl rfl rfl (r := .v _) rfl trivial ?_
  -- op 2.2 move t11
  refine st td_ok rfl rfl rfl rfl (r := .v _) rfl trivial ?_
  -- op 2.3 move t12 g['2', 'true']
  (refine sgk0 td_ok rfl rfl rfl rfl rfl rfl (r := .sl _ _ _) rfl ?_ ?_; · exact fun hg => ⟨by (repeat' (first | exact trivial | exact hg | exact (Bool.and_eq_true_iff.mp hg).1 | apply And.intro)), by exact trivial⟩)
  -- op 2.4 call t13 g['2', 'true']
  (refine sgk0 td_ok rfl rfl rfl rfl rfl rfl (r := .v _) rfl ?_ ?_; · exact fun hg => ⟨by (repeat' (first | exact trivial | exact hg | exact (Bool.and_eq_true_iff.mp hg).1 | apply And.intro)), by exact trivial⟩)
  -- op 2.5 binOp t14 g['2', 'true']
  (refine sgk0 td_ok rfl rfl rfl rfl rfl rfl (r := .v _) rfl ?_ ?_; · exact fun hg => ⟨by (repeat' (first | exact trivial | exact hg | exact (Bool.and_eq_true_iff.mp hg).1 | apply And.intro)), by exact trivial⟩)
  -- op 2.6 pick t15
  (refine st td_ok rfl rfl rfl rfl (r := .v _) rfl ?_ ?_; · exact (fun h => h))
  -- op 2.7 move t16
  refine st td_ok rfl rfl rfl rfl (r := .v _) rfl trivial ?_
  -- op 2.8 move t17 g['7', 'true']
  (refine sgk0 td_ok rfl rfl rfl rfl rfl rfl (r := .sl _ _ _) rfl ?_ ?_; · exact fun hg => ⟨by (repeat' (first | exact trivial | exact hg | exact (Bool.and_eq_true_iff.mp hg).1 | apply And.intro)), by exact trivial⟩)
  -- op 2.9 indexAddr t18 g['7', 'true']
  (refine sgk0 td_ok rfl rfl rfl rfl rfl rfl (r := .pp _ _) rfl ?_ ?_; · exact fun hg => ⟨by (repeat' (first | exact trivial | exact hg | exact (Bool.and_eq_true_iff.mp hg).1 | apply And.intro)), by ((repeat' with_reducible apply And.intro) <;> (first | omega | exact Nat.le_of_ble_eq_true rfl | (simp only [awakeL_len, cond_true, cond_false, nd, Option.getD_none, Option.getD_some, Int.toNat_natCast, strs_len, nums_len, List.length_append, tds2, tds3, tds4, tds5, tds9, tds12, tds21, tds23, tds24, tds27, tds30, tds31, tds32, tds34, tds51, tds55, decide_eq_true_eq, Bool.and_eq_true, Bool.not_eq_true', decide_eq_false_iff_not] at *; omega)))⟩)
  -- op 2.10 fieldAddr t19 g['7', 'true']
  (refine sgk0 td_ok rfl rfl rfl rfl rfl rfl (r := .pp _ _) rfl ?_ ?_; · exact fun hg => ⟨by (repeat' (first | exact trivial | exact hg | exact (Bool.and_eq_true_iff.mp hg).1 | apply And.intro)), by exact trivial⟩)
  -- op 2.11 load t20 g['7', 'true']
  (refine sgk0 td_ok rfl rfl rfl rfl rfl rfl (r := .v _) rfl ?_ ?_; · exact fun hg => ⟨by (repeat' (first | exact trivial | exact hg | exact (Bool.and_eq_true_iff.mp hg).1 | apply And.intro)), by ((repeat' with_reducible apply And.intro) <;> exact Nat.le_of_ble_eq_true rfl)⟩)
  -- op 2.12 binOp t21 g['7', 'true']
  (refine sgk0 td_ok rfl rfl rfl rfl rfl rfl (r := .v _) rfl ?_ ?_; · exact fun hg => ⟨by (repeat' (first | exact trivial | exact hg | exact (Bool.and_eq_true_iff.mp hg).1 | apply And.intro)), by exact trivial⟩)
  -- op 2.13 pick t22
  (refine st td_ok rfl rfl rfl rfl (r := .v _) rfl ?_ ?_; · exact (fun h => h))
  -- op 2.14 move t23
  refine st td_ok rfl rfl rfl rfl (r := .v _) rfl trivial ?_
  -- op 2.15 move t24 g['14', 'true']
  (refine sgk0 td_ok rfl rfl rfl rfl rfl rfl (r := .sl _ _ _) rfl ?_ ?_; · exact fun hg => ⟨by (repeat' (first | exact trivial | exact hg | exact (Bool.and_eq_true_iff.mp hg).1 | apply And.intro)), by exact trivial⟩)
  -- op 2.16 indexAddr t25 g['14', 'true']
  (refine sgk0 td_ok rfl rfl rfl rfl rfl rfl (r := .pp _ _) rfl ?_ ?_; · exact fun hg => ⟨by (repeat' (first | exact trivial | exact hg | exact (Bool.and_eq_true_iff.mp hg).1 | apply And.intro)), by ((repeat' with_reducible apply And.intro) <;> (first | omega | exact Nat.le_of_ble_eq_true rfl | (simp only [awakeL_len, cond_true, cond_false, nd, Option.getD_none, Option.getD_some, Int.toNat_natCast, strs_len, nums_len, List.length_append, tds2, tds3, tds4, tds5, tds9, tds12, tds21, tds23, tds24, tds27, tds30, tds31, tds32, tds34, tds51, tds55, decide_eq_true_eq, Bool.and_eq_true, Bool.not_eq_true', decide_eq_false_iff_not] at *; omega)))⟩)
  -- op 2.17 fieldAddr t26 g['14', 'true']
  (refine sgk0 td_ok rfl rfl rfl rfl rfl rfl (r := .pp _ _) rfl ?_ ?_; · exact fun hg => ⟨by (repeat' (first | exact trivial | exact hg | exact (Bool.and_eq_true_iff.mp hg).1 | apply And.intro)), by exact trivial⟩)
  -- op 2.18 load t27 g['14', 'true']
  (refine sgk0 td_ok rfl rfl rfl rfl rfl rfl (r := .v _) rfl ?_ ?_; · exact fun hg => ⟨by (repeat' (first | exact trivial | exact hg | exact (Bool.and_eq_true_iff.mp hg).1 | apply And.intro)), by ((repeat' with_reducible apply And.intro) <;> exact Nat.le_of_ble_eq_true rfl)⟩)
  -- op 2.19 binOp t28 g['14', 'true']
  (refine sgk0 td_ok rfl rfl rfl rfl rfl rfl (r := .v _) rfl ?_ ?_; · exact fun hg => ⟨by (repeat' (first | exact trivial | exact hg | exact (Bool.and_eq_true_iff.mp hg).1 | apply And.intro)), by exact trivial⟩)
  -- op 2.20 pick t29
  (refine st td_ok rfl rfl rfl rfl (r := .v _) rfl ?_ ?_; · exact (fun h => h))
  -- op 2.21 move t30
  refine st td_ok rfl rfl rfl rfl (r := .v _) rfl trivial ?_
  -- op 2.22 move t31 g['21', 'true']
  (refine sgk0 td_ok rfl rfl rfl rfl rfl rfl (r := .sl _ _ _) rfl ?_ ?_; · exact fun hg => ⟨by (repeat' (first | exact trivial | exact hg | exact (Bool.and_eq_true_iff.mp hg).1 | apply And.intro)), by exact trivial⟩)
  -- op 2.23 indexAddr t32 g['21', 'true']
  (refine sgk0 td_ok rfl rfl rfl rfl rfl rfl (r := .pp _ _) rfl ?_ ?_; · exact fun hg => ⟨by (repeat' (first | exact trivial | exact hg | exact (Bool.and_eq_true_iff.mp hg).1 | apply And.intro)), by ((repeat' with_reducible apply And.intro) <;> (first | omega | exact Nat.le_of_ble_eq_true rfl | (simp only [awakeL_len, cond_true, cond_false, nd, Option.getD_none, Option.getD_some, Int.toNat_natCast, strs_len, nums_len, List.length_append, tds2, tds3, tds4, tds5, tds9, tds12, tds21, tds23, tds24, tds27, tds30, tds31, tds32, tds34, tds51, tds55, decide_eq_true_eq, Bool.and_eq_true, Bool.not_eq_true', decide_eq_false_iff_not] at *; omega)))⟩)
  -- op 2.24 fieldAddr t33 g['21', 'true']
  (refine sgk0 td_ok rfl rfl rfl rfl rfl rfl (r := .pp _ _) rfl ?_ ?_; · exact fun hg => ⟨by (repeat' (first | exact trivial | exact hg | exact (Bool.and_eq_true_iff.mp hg).1 | apply And.intro)), by exact trivial⟩)
  -- op 2.25 load t34 g['21', 'true']
  (refine sgk0 td_ok rfl rfl rfl rfl rfl rfl (r := .v _) rfl ?_ ?_; · exact fun hg => ⟨by (repeat' (first | exact trivial | exact hg | exact (Bool.and_eq_true_iff.mp hg).1 | apply And.intro)), by ((repeat' with_reducible apply And.intro) <;> exact Nat.le_of_ble_eq_true rfl)⟩)
  -- op 2.26 binOp t35 g['21', 'true']
  (refine sgk0 td_ok rfl rfl rfl rfl rfl rfl (r := .v _) rfl ?_ ?_; · exact fun hg => ⟨by (repeat' (first | exact trivial | exact hg | exact (Bool.and_eq_true_iff.mp hg).1 | apply And.intro)), by exact trivial⟩)
  -- op 2.27 pick t36
  (refine st td_ok rfl rfl rfl rfl (r := .v _) rfl ?_ ?_; · exact (fun h => h))
  -- op 2.28 assign t0
  refine st td_ok rfl rfl rfl rfl (r := .v _) rfl trivial ?_
  refine AOps_nil ?_
  refine qn ?_
  refine AWP_ret ?_
  -- ret 0
  refine ⟨_, _, _, _, rfl, trivial, GS.forget _ _, ?_⟩
  first | show AV.v _ = _ | show AV.tup _ = _ | show AV.sl _ _ _ = _ | show AV.agg _ = _ | skip
  simp [awakeL_len]
end Go.Proofs.Ytoiolofgcgkgiaa.V
