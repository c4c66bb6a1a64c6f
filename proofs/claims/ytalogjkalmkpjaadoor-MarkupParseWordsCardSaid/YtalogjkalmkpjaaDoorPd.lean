/-
  The laws of rows of tracked words.
-/
import Derived.Test.YtalogjkalmkpjaaDoorPc
import Derived.KernelRfl
set_option linter.unusedVariables false
set_option linter.unusedSimpArgs false
namespace Go.Proofs.YtalogjkalmkpjaaDoor
open Go Go.Dec
theorem fid1 : M.markup_formatID ⟨1, 0, 1⟩ = some [35, 49, 46, 48, 46, 49] := by
  have i1 : ∀ k : Nat, k < 10 → Lib.itoa (k : Int) = [UInt8.ofNat (48 + k)] := fun k hk => by
    unfold Lib.itoa
    rw [if_neg (by omega), Lib.decDigits, dif_pos (by omega)]
    rfl
  have a0 : Lib.itoa 0 = [48] := i1 0 (by decide)
  have a1 : Lib.itoa 1 = [49] := i1 1 (by decide)
  simp only [M.markup_formatID, itoaM, a0, a1, Option.bind_some]
  rfl
def secT : api_TrackedUnit := ⟨0, 2, ⟨1, 0, 1⟩, [53], [52], false, [], [⟨0, [97]⟩, ⟨2, [98]⟩, ⟨1, [99]⟩], []⟩
def rowW : List TW := [⟨0, [97]⟩, ⟨2, [98]⟩, ⟨1, [99]⟩]
theorem rowW_text : rowF rowW = [97, 32, 91, 45, 32, 98, 32, 45, 93, 32, 91, 43, 32, 99, 32, 43, 93] := by rfl
theorem line_sec : To (fun n => M.markup_line n secT 0) [61, 32, 115, 101, 99, 116, 105, 111, 110, 32, 53, 32, 119, 97, 115, 32, 52, 32, 35, 49, 46, 48, 46, 49, 32, 124, 32, 97, 32, 91, 45, 32, 98, 32, 45, 93, 32, 91, 43, 32, 99, 32, 43, 93] := by
  have hf := format_ok rowW
  rw [rowW_text] at hf
  simp only [M.markup_line]
  refine To.bindS (show repeatM ([32, 32] : Str) 0 = some [] from rfl) (To.bindS (show M.markup_sign secT = some [61] from rfl) (To.bindS (show catC [] [61] = some [61] from rfl) (To.bindS (show catC [61] [32] = some [61, 32] from rfl) (To.bindS (show M.markup_sign secT = some [61] from rfl) (To.neg (by decide) ?_)))))
  refine To.bindS (show M.unit_KindName secT.Kind = some [115, 101, 99, 116, 105, 111, 110] from rfl) (To.bindS (catC_eq (by decide)) ?_)
  refine To.bind (To.pos (by decide) (To.bindS (catC_eq (by decide)) (To.bindS (catC_eq (by decide)) To.pure))) ?_
  refine To.bind (To.pos (by decide) (To.bindS (catC_eq (by decide)) (To.bindS (catC_eq (by decide)) To.pure))) ?_
  refine To.bindS fid1 (To.bindS (catC_eq (by decide)) (To.bindS (catC_eq (by decide)) ?_))
  refine To.bind (To.neg (by decide) To.pure) ?_
  refine To.pos (by decide) (To.bind hf (To.bindS (catC_eq (by decide)) (To.bindS (catC_eq (by decide)) (To.pure.of ?_))))
  rfl
theorem lines_sec : To (fun n => M.markup_Lines n secT) [[61, 32, 115, 101, 99, 116, 105, 111, 110, 32, 53, 32, 119, 97, 115, 32, 52, 32, 35, 49, 46, 48, 46, 49, 32, 124, 32, 97, 32, 91, 45, 32, 98, 32, 45, 93, 32, 91, 43, 32, 99, 32, 43, 93]] := by
  have hv : To (fun n => M.markup_validTree n secT 0) true := To.far 30 fun m => by kernel_rfl
  simp only [M.markup_Lines]
  refine To.bind hv (To.neg (by decide) (To.bind (To.succ ?_) To.pure))
  simp only [M.markup_Lines_1]
  exact To.bind line_sec (To.bindS (appC_eq (by decide)) (To.bind To.pure To.pure))
theorem awake53 : To (fun n => M.law53_awake n) true := by
  have hf := format_ok rowW
  rw [rowW_text] at hf
  simp only [M.law53_awake]
  refine To.bind (a := ([61, 32, 115, 101, 99, 116, 105, 111, 110, 32, 53, 32, 119, 97, 115, 32, 52, 32, 35, 49, 46, 48, 46, 49, 32, 124, 32, 97, 32, 91, 45, 32, 98, 32, 45, 93, 32, 91, 43, 32, 99, 32, 43, 93, 10], (0 : Int))) ?_ (To.bind hf (To.pos (by decide) (To.pos rfl (To.pure.of (by decide)))))
  simp only [M.markup_Format]
  refine To.bind lines_sec (To.neg (by decide) (To.bindS (show M.strings_Join _ [10] = some [61, 32, 115, 101, 99, 116, 105, 111, 110, 32, 53, 32, 119, 97, 115, 32, 52, 32, 35, 49, 46, 48, 46, 49, 32, 124, 32, 97, 32, 91, 45, 32, 98, 32, 45, 93, 32, 91, 43, 32, 99, 32, 43, 93] from rfl) (To.bindS (catC_eq (by decide)) (To.neg (by decide) (To.pure.of rfl)))))
theorem few_tot (l : List TW) : ∃ b, To (fun n => M.r53_Few n (⟨0, 0, zapi_Id, [], [], false, [], l, []⟩ : api_TrackedUnit) 1) b := by
  have l2 : ∀ (xs : List TW) (i : Nat), l.drop i = xs → ∃ o, To (fun n => M.r53_few_loop2 (⟨0, 0, zapi_Id, [], [], false, [], l, []⟩ : api_TrackedUnit) n (i : Int)) o := by
    intro xs
    induction xs with
    | nil =>
      intro i hx
      refine ⟨.inl (), To.succ ?_⟩
      simp only [M.r53_few_loop2]
      exact To.neg (drop_end hx) To.pure
    | cons w xs ih =>
      intro i hx
      obtain ⟨o, ho⟩ := ih (i + 1) (drop_next hx)
      by_cases h : (100 : Int) < (w.Text.length : Int)
      · refine ⟨.inr (-1), To.succ ?_⟩
        simp only [M.r53_few_loop2]
        exact To.pos (drop_lt hx) (To.bindS (drop_idx hx) (To.pos h To.pure))
      · refine ⟨o, To.succ ?_⟩
        simp only [M.r53_few_loop2]
        rw [cast_succ]
        exact To.pos (drop_lt hx) (To.bindS (drop_idx hx) (To.neg h ho))
  obtain ⟨o, ho⟩ := l2 l 0 rfl
  have hfew : ∃ k, To (fun n => M.r53_few n (⟨0, 0, zapi_Id, [], [], false, [], l, []⟩ : api_TrackedUnit) 1 12) k := by
    have hcond : To (fun _ => if (12 : Int) < (0 : Int) then some true else if (600 : Int) < ((([] : List TW).length : Nat) : Int) then some true else if (600 : Int) < (l.length : Int) then some true else if (100 : Int) < ((([] : Str).length : Nat) : Int) then some true else some (decide ((100 : Int) < ((([] : Str).length : Nat) : Int)))) (decide ((600 : Int) < (l.length : Int))) := by
      refine To.neg (by decide) (To.neg (by decide) ?_)
      by_cases h : (600 : Int) < (l.length : Int)
      · exact To.pos h (To.pure.of (by simp [h]))
      · exact To.neg h (To.neg (by decide) (To.pure.of (by simp [h])))
    by_cases h : (600 : Int) < (l.length : Int)
    · refine ⟨-1, To.succ ?_⟩
      simp only [M.r53_few]
      exact To.bindS (subC_eq (by omega) (by omega)) (To.bind hcond (To.pos (decide_eq_true h) To.pure))
    · have h1 : To (fun n => M.r53_few_loop1 (⟨0, 0, zapi_Id, [], [], false, [], l, []⟩ : api_TrackedUnit) n 0) (.inl ()) := by
        refine To.succ ?_
        simp only [M.r53_few_loop1]
        exact To.neg (by simp) To.pure
      cases o with
      | inr r =>
        refine ⟨r, To.succ ?_⟩
        simp only [M.r53_few]
        exact To.bindS (subC_eq (by omega) (by omega)) (To.bind hcond (To.neg (by simpa using h) (To.bind h1 (To.bind ho To.pure))))
      | inl u =>
        refine ⟨0, To.succ ?_⟩
        simp only [M.r53_few]
        refine To.bindS (subC_eq (by omega) (by omega)) (To.bind hcond (To.neg (by simpa using h) (To.bind h1 (To.bind ho (To.bind (To.succ ?_) To.pure)))))
        simp only [M.r53_few_loop3]
        exact To.bind (a := false) (To.neg (by simp) To.pure) (To.neg (by decide) To.pure)
  obtain ⟨k, hk⟩ := hfew
  refine ⟨decide (0 ≤ k), ?_⟩
  simp only [M.r53_Few]
  exact To.bind hk To.pure
theorem formatwords_true (l : List TW) : ∃ n, M.law53_MarkupFormatWords n l = some true := by
  refine To.ex ?_
  obtain ⟨b, hb⟩ := few_tot l
  simp only [M.law53_MarkupFormatWords]
  refine To.bind awake53 (To.neg (by decide) (To.bind hb ?_))
  by_cases h : b = true
  · refine To.neg (by rw [h]; decide) (To.bind (format_ok l) (To.bind (rrow_ok l) (To.neg (by simp) (To.bind (mrow_ok l) ?_))))
    by_cases hr : rowB l = true
    · have hp := parse_ok (rowF l) (row_len l)
      rw [row_back l hr] at hp
      exact To.neg (by rw [hr]; decide) (To.bind hp (To.pos rfl (To.bind (rows_ok l l) (To.pure.of (by simp)))))
    · have hf : rowF l = [] := if_neg hr
      exact To.pos (by simpa using hr) (To.pure.of (by rw [hf]; rfl))
  · exact To.pos (by simpa using h) To.pure
theorem parsewords_true (s : Str) : ∃ n, M.law53_MarkupParseWords n s = some true := by
  refine To.ex ?_
  simp only [M.law53_MarkupParseWords]
  refine To.bind awake53 (To.neg (by decide) ?_)
  by_cases h : (2000 : Int) < (s.length : Int)
  · exact To.pos h To.pure
  · refine To.neg h (To.bind (parse_ok s (by omega)) (To.bind (words_ok s (by omega)) (To.pos (by simp) (To.bind (rows_ok _ _) (To.pos (by simp) ?_)))))
    by_cases hok : (psB s).2 = true
    · refine To.neg (by rw [hok]; decide) (To.bind (format_ok _) (To.pure.of ?_))
      unfold psB at hok ⊢
      by_cases h0 : s = []
      · rw [if_pos h0, h0]; rfl
      · rw [if_neg h0] at hok ⊢
        cases hp : pcF 0 (splitC 32 s) with
        | none => rw [hp] at hok; cases hok
        | some m =>
          rw [hp] at hok
          dsimp only at hok ⊢
          by_cases hm : rowB m = true ∧ rowF m = s
          · rw [if_pos hm]
            simp [hm.2]
          · rw [if_neg hm] at hok; cases hok
    · exact To.pos (by simpa using hok) To.pure
end Go.Proofs.YtalogjkalmkpjaaDoor
