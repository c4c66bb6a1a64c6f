/-
  Chapter 48: the law Transitive.
-/
import Derived.Test.YtclepigknhoonaaPg
set_option linter.unusedVariables false
set_option linter.unusedSimpArgs false
namespace Go.Proofs.Ytclepigknhoonaa
open Go Go.Dec

def Dw (u v : api_Unit) : Int × Bool := difP (tx u.Words) (tx v.Words)

theorem cw_ok (a b : api_Unit) (l : List api_Destination) (hca : cnt a ≤ 10000) (hla : labs a) (hfa : fineT a) (hcb : cnt b ≤ 10000) (hlb : labs b) (hfb : fineT b) (hl : l.length ≤ 10000) : To (fun n => M.equivalence_CheckWords n a b l) (checkF Dw a b l) := by
  simp only [M.equivalence_CheckWords]
  refine To.bind (check_ok a b l [] [] Dw hca hla hfa hcb hlb hfb hl (fun t ht u hu v hv _ _ => ?_)) To.pure
  exact differ_none ht hcb hlb (rdT u []) (rdT v []) (rd_none u)

theorem dw_false {u v : api_Unit} : (Dw u v).2 = false ↔ tx u.Words = tx v.Words := by
  unfold Dw difP
  split
  · rename_i h; simp [h]
  · rename_i h; simp [h]

def comp (l m : List api_Destination) : List api_Destination := l.flatMap (fun x => (m.filter (fun y => decide (x.To = y.From))).map (fun y => ⟨x.From, y.To⟩))

theorem comp_ok (m : List api_Destination) : ∀ (l out : List api_Destination), out.length + l.length * m.length ≤ 1000000 → M.law48_EquivalenceTransitive_loop1 m l out = some (out ++ comp l m) := by
  have loop2 : ∀ (e : api_Destination) (m out : List api_Destination), out.length + m.length ≤ 1000000 → M.law48_EquivalenceTransitive_loop2 e m out = some (out ++ (m.filter (fun y => decide (e.To = y.From))).map (fun y => ⟨e.From, y.To⟩)) := by
    intro e m
    induction m with
    | nil => intro out _; simp [M.law48_EquivalenceTransitive_loop2]
    | cons y m ih =>
      intro out h
      simp only [List.length_cons] at h
      simp only [M.law48_EquivalenceTransitive_loop2]
      by_cases he : e.To = y.From
      · rw [if_pos he, appC_eq (by simp; omega), Option.bind_some, ih _ (by simp; omega)]
        simp [he]
      · rw [if_neg he, ih _ (by omega)]
        simp [he]
  intro l
  induction l with
  | nil => intro out _; simp [M.law48_EquivalenceTransitive_loop1, comp]
  | cons x l ih =>
    intro out h
    simp only [List.length_cons, Nat.succ_mul] at h
    simp only [M.law48_EquivalenceTransitive_loop1]
    have hf : (m.filter (fun y => decide (x.To = y.From))).length ≤ m.length := List.length_filter_le _ _
    rw [loop2 x m out (by omega), Option.bind_some, ih _ (by simp only [List.length_append, List.length_map]; omega)]
    simp [comp]

theorem comp_len (l m : List api_Destination) : (comp l m).length ≤ l.length * m.length := by
  induction l with
  | nil => simp [comp]
  | cons x l ih =>
    have hf : (m.filter (fun y => decide (x.To = y.From))).length ≤ m.length := List.length_filter_le _ _
    have e : comp (x :: l) m = (m.filter (fun y => decide (x.To = y.From))).map (fun y => ⟨x.From, y.To⟩) ++ comp l m := rfl
    rw [e, List.length_append, List.length_map, List.length_cons, Nat.succ_mul]
    omega

theorem comp_dst (m : List api_Destination) (id : api_Id) : ∀ l, dst (comp l m) id = (dst l id).flatMap (dst m) := by
  intro l
  induction l with
  | nil => rfl
  | cons x l ih =>
    have e : comp (x :: l) m = (m.filter (fun y => decide (x.To = y.From))).map (fun y => ⟨x.From, y.To⟩) ++ comp l m := rfl
    have e2 : dst (comp (x :: l) m) id = dst ((m.filter (fun y => decide (x.To = y.From))).map (fun y => (⟨x.From, y.To⟩ : api_Destination))) id ++ dst (comp l m) id := by rw [e]; simp [dst]
    rw [e2, ih]
    by_cases h : x.From = id
    · have e3 : dst (x :: l) id = x.To :: dst l id := by simp [dst, h]
      rw [e3, List.flatMap_cons]
      congr 1
      unfold dst
      rw [List.filter_map, List.map_map]
      have : ((fun d : api_Destination => decide (d.From = id)) ∘ fun y : api_Destination => (⟨x.From, y.To⟩ : api_Destination)) = fun _ => true := by funext y; simp [h]
      rw [this, List.filter_eq_self.2 (fun _ _ => rfl)]
      have : (fun y : api_Destination => decide (x.To = y.From)) = fun d => decide (d.From = x.To) := by funext y; simp [eq_comm]
      rw [this]; rfl
    · have e3 : dst (x :: l) id = dst l id := by simp [dst, h]
      rw [e3]
      have : dst ((m.filter (fun y => decide (x.To = y.From))).map (fun y => (⟨x.From, y.To⟩ : api_Destination))) id = [] := by
        unfold dst
        rw [List.filter_map]
        have : ((fun d : api_Destination => decide (d.From = id)) ∘ fun y : api_Destination => (⟨x.From, y.To⟩ : api_Destination)) = fun _ => false := by funext y; simp [h]
        rw [this]; simp
      rw [this, List.nil_append]

theorem comp_src (m : List api_Destination) (w : api_Id) (y0 : api_Destination) (hy : m.filter (fun d => decide (d.To = w)) = [y0]) : ∀ l, src (comp l m) w = src l y0.From := by
  intro l
  induction l with
  | nil => rfl
  | cons x l ih =>
    have e : comp (x :: l) m = (m.filter (fun y => decide (x.To = y.From))).map (fun y => ⟨x.From, y.To⟩) ++ comp l m := rfl
    have e2 : src (comp (x :: l) m) w = src ((m.filter (fun y => decide (x.To = y.From))).map (fun y => (⟨x.From, y.To⟩ : api_Destination))) w ++ src (comp l m) w := by rw [e]; simp [src]
    rw [e2, ih]
    have e4 : src ((m.filter (fun y => decide (x.To = y.From))).map (fun y => (⟨x.From, y.To⟩ : api_Destination))) w = if x.To = y0.From then [x.From] else [] := by
      unfold src
      rw [List.filter_map, List.map_map]
      have : ((fun d : api_Destination => decide (d.To = w)) ∘ fun y : api_Destination => (⟨x.From, y.To⟩ : api_Destination)) = fun d => decide (d.To = w) := rfl
      rw [this, List.filter_filter]
      have : (m.filter fun a => decide (a.To = w) && decide (x.To = a.From)) = (m.filter (fun d => decide (d.To = w))).filter (fun y => decide (x.To = y.From)) := by
        rw [List.filter_filter]; congr 1; funext a; exact Bool.and_comm _ _
      rw [this, hy]
      by_cases h : x.To = y0.From
      · simp [h]
      · simp [h]
    rw [e4]
    by_cases h : x.To = y0.From
    · simp [src, h]
    · simp [src, h]

theorem comp_nil {a b c : api_Unit} {l m : List api_Destination} (h1 : checkF Dw a b l = []) (h2 : checkF Dw b c m = []) : checkF Dw a c (comp l m) = [] := by
  rw [check_nil] at h1 h2 ⊢
  obtain ⟨p1, p2, p3⟩ := h1
  obtain ⟨q1, q2, q3⟩ := h2
  refine ⟨fun u hu => ?_, fun w hw => ?_, fun d hd => ?_⟩
  · obtain ⟨v, hv⟩ := p1 u hu
    obtain ⟨w, hw⟩ := q1 v hv.k
    refine ⟨w, ?_, hw.k, hw.f, hw.i, hv.kind.trans hw.kind, hv.head.trans hw.head, ?_⟩
    · rw [comp_dst, hv.d]; simp [hw.d]
    · exact dw_false.2 ((dw_false.1 hv.dif).trans (dw_false.1 hw.dif))
  · have h1 := q2 w hw
    unfold src at h1
    rw [List.length_map] at h1
    obtain ⟨y0, hy⟩ := List.length_eq_one_iff.1 h1
    have hm : y0 ∈ m.filter (fun d => decide (d.To = w.Id)) := by rw [hy]; exact List.mem_singleton.2 rfl
    rw [comp_src m w.Id y0 hy]
    obtain ⟨v, _, hvk, hvi, _⟩ := in_find (q3 y0 (List.mem_filter.1 hm).1)
    rw [← hvi]
    exact p2 v hvk
  · obtain ⟨x, hx, hd⟩ := List.mem_flatMap.1 hd
    obtain ⟨y, hy, rfl⟩ := List.mem_map.1 hd
    exact p3 x hx

theorem transitive_true (a b c : api_Unit) (l m : List api_Destination) : ∃ n, M.law48_EquivalenceTransitive n a b c l m = some true := by
  refine To.ex ?_
  simp only [M.law48_EquivalenceTransitive]
  have fin : To (fun n => Option.bind (M.law48_awake n) fun awake => some awake) true := To.bind awake48 To.pure
  obtain ⟨r, h1, k1⟩ := heavy_ok a b l [] [] (by simp)
  cases r with
  | true => exact To.bind (a := true) (To.bind h1 (To.pos rfl To.pure)) (To.pos rfl fin)
  | false =>
    obtain ⟨oka, okb, hl, _, _⟩ := k1 rfl
    obtain ⟨r, h2, k2⟩ := heavy_ok b c m [] [] (by simp)
    cases r with
    | true => exact To.bind (a := true) (To.bind h1 (To.neg (by simp) (To.bind h2 (To.pos rfl To.pure)))) (To.pos rfl fin)
    | false =>
      obtain ⟨_, okc, hm, _, _⟩ := k2 rfl
      have ca := oka.c
      have cb := okb.c
      have cc := okc.c
      obtain ⟨r1, o1, _⟩ := once_ok a (by omega)
      obtain ⟨r2, o2, _⟩ := once_ok b (by omega)
      obtain ⟨r3, o3, _⟩ := once_ok c (by omega)
      cases r1 with
      | false => exact To.bind (a := true) (To.bind h1 (To.neg (by simp) (To.bind h2 (To.neg (by simp) (To.bind o1 (To.pos rfl To.pure)))))) (To.pos rfl fin)
      | true =>
      cases r2 with
      | false => exact To.bind (a := true) (To.bind h1 (To.neg (by simp) (To.bind h2 (To.neg (by simp) (To.bind o1 (To.neg (by simp) (To.bind o2 (To.pos rfl To.pure)))))))) (To.pos rfl fin)
      | true =>
      have hb3 : To (fun n => Option.bind (M.law48_heavy n a b l [] []) fun heavy => if heavy = true then some true else Option.bind (M.law48_heavy n b c m [] []) fun heavy1 => if heavy1 = true then some true else
          Option.bind (M.law48_once n a) fun once => if once = false then some true else Option.bind (M.law48_once n b) fun once1 => if once1 = false then some true else Option.bind (M.law48_once n c) fun once2 => some (!once2)) (!r3) :=
        To.bind h1 (To.neg (by simp) (To.bind h2 (To.neg (by simp) (To.bind o1 (To.neg (by simp) (To.bind o2 (To.neg (by simp) (To.bind o3 To.pure))))))))
      refine To.bind hb3 ?_
      cases r3 with
      | false => exact To.pos rfl fin
      | true =>
      refine To.neg (by simp) ?_
      have w1 := cw_ok a b l (by omega) oka.l oka.f.t (by omega) okb.l okb.f.t (by omega)
      have w2 := cw_ok b c m (by omega) okb.l okb.f.t (by omega) okc.l okc.f.t (by omega)
      have hlm : l.length * m.length ≤ 1600 := by
        have := Nat.mul_le_mul hl hm
        omega
      by_cases e1 : checkF Dw a b l = []
      · by_cases e2 : checkF Dw b c m = []
        · refine To.bind (a := false) (To.bind w1 (To.neg (by rw [e1]; simp) (To.bind w2 (To.pure.of (by rw [e2]; simp))))) (To.neg (by simp) ?_)
          refine To.bindS (comp_ok m l [] (by simp; omega)) ?_
          rw [List.nil_append]
          have hcl := comp_len l m
          have w3 := cw_ok a c (comp l m) (by omega) oka.l oka.f.t (by omega) okc.l okc.f.t (by omega)
          refine To.bind w3 (To.pos ?_ fin)
          rw [comp_nil e1 e2]; rfl
        · refine To.bind (a := true) (To.bind w1 (To.neg (by rw [e1]; simp) (To.bind w2 (To.pure.of ?_)))) (To.pos rfl fin)
          have := List.length_pos_iff.2 e2
          simp; omega
      · have := List.length_pos_iff.2 e1
        exact To.bind (a := true) (To.bind w1 (To.pos (by omega) To.pure)) (To.pos rfl fin)
end Go.Proofs.Ytclepigknhoonaa
