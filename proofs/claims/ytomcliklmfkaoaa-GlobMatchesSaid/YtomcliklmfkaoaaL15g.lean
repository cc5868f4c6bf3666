import Derived.Test.YtomcliklmfkaoaaL15f
open Go Ab Go.Proofs
namespace L15
set_option autoImplicit false
set_option linter.unusedSimpArgs false
set_option linter.unusedVariables false

/-! ### One pattern behind another -/
theorem stp_app {s r : List UInt8} {a b : UInt8} (h : stp s = .one a b r) (hr : r ≠ []) (q : List UInt8) : stp (s ++ q) = .one a b (r ++ q) := by
  obtain ⟨h93, h45, hb⟩ := stp_one h
  rcases hb with ⟨rfl, rfl, h1 | ⟨x, t, rfl, hx⟩⟩ | ⟨rfl, b93, b45, hba⟩
  · exact absurd h1 hr
  · simp only [List.cons_append, stp, if_neg h93, if_neg h45]
    cases hq : t ++ q with
    | nil => simp [hx]
    | cons y z => simp [hx]
  · simp only [List.cons_append, stp, if_neg h93, if_neg h45, if_true]
    rw [if_neg (by simp [b93, b45, hba])]
theorem clsGo_head : ∀ (s : List UInt8) {rs : List (UInt8 × UInt8)} {r : List UInt8}, clsGo s = some (rs, r) → r = [] ∨ ∃ t, r = 93 :: t := fun s rs r h => by
  match e : stp s with
  | .stop =>
    rw [clsGo_stop e] at h; cases h
    unfold stp at e
    split at e
    · exact .inl rfl
    · rename_i c t
      split at e
      · rename_i hc; exact .inr ⟨t, by rw [hc]⟩
      · repeat' split at e
        all_goals cases e
  | .bad => rw [clsGo_bad e] at h; cases h
  | .one a b t =>
    have hl := stp_len e
    rw [clsGo_one e] at h
    simp only [Option.map_eq_some_iff] at h
    obtain ⟨⟨rs', r'⟩, h1, h2⟩ := h
    cases h2
    exact clsGo_head t h1
termination_by s => s.length
theorem clsGo_suf : ∀ (s : List UInt8) {rs : List (UInt8 × UInt8)} {r : List UInt8}, clsGo s = some (rs, r) → ∃ pre, s = pre ++ r := fun s rs r h => by
  match e : stp s with
  | .stop => rw [clsGo_stop e] at h; cases h; exact ⟨[], rfl⟩
  | .bad => rw [clsGo_bad e] at h; cases h
  | .one a b t =>
    have hl := stp_len e
    rw [clsGo_one e] at h
    simp only [Option.map_eq_some_iff] at h
    obtain ⟨⟨rs', r'⟩, h1, h2⟩ := h
    cases h2
    obtain ⟨pre, hp⟩ := clsGo_suf t h1
    obtain ⟨_, _, hb⟩ := stp_one e
    rcases hb with ⟨hs, _, _⟩ | ⟨hs, _⟩
    · exact ⟨a :: pre, by rw [hs, hp]; rfl⟩
    · exact ⟨a :: 45 :: b :: pre, by rw [hs, hp]; rfl⟩
termination_by s => s.length
theorem clsGo_app : ∀ (s q : List UInt8) {rs : List (UInt8 × UInt8)} {r : List UInt8}, clsGo s = some (rs, r) → r ≠ [] → clsGo (s ++ q) = some (rs, r ++ q) := fun s q rs r h hr => by
  match e : stp s with
  | .stop =>
    rw [clsGo_stop e] at h; cases h
    rcases clsGo_head s (clsGo_stop e) with h1 | ⟨t, rfl⟩
    · exact absurd h1 hr
    · exact clsGo_stop (by simp [stp])
  | .bad => rw [clsGo_bad e] at h; cases h
  | .one a b t =>
    have hl := stp_len e
    rw [clsGo_one e] at h
    simp only [Option.map_eq_some_iff] at h
    obtain ⟨⟨rs', r'⟩, h1, h2⟩ := h
    cases h2
    have ht : t ≠ [] := by rintro rfl; rw [clsGo_stop rfl] at h1; cases h1; exact hr rfl
    rw [clsGo_one (stp_app e ht q), clsGo_app t q h1 hr]; rfl
termination_by s => s.length
theorem cls_app {s r : List UInt8} {p : Pt} (h : cls s = some (p, r)) (q : List UInt8) : cls (s ++ q) = some (p, r ++ q) := by
  unfold cls at h
  split at h
  · cases h
  · rename_i rs r' h1
    split at h
    · cases h
    · rename_i h2
      simp only [not_or] at h2
      cases h
      have hs : s ≠ [] := by rintro rfl; simp only [bang] at h1; rw [clsGo_stop rfl] at h1; cases h1; exact h2.1 rfl
      have hb : bang (s ++ q) = ((bang s).1, (bang s).2 ++ q) := by
        cases s with
        | nil => exact absurd rfl hs
        | cons c t => simp only [List.cons_append, bang]; split <;> rfl
      unfold cls
      rw [hb]
      simp only [clsGo_app _ q h1 h2.1]
      rw [if_neg (by simp [h2.1, h2.2])]
      rw [List.tail_append_of_ne_nil h2.1]
theorem tok_app {s r : List UInt8} {p : Pt} (h : tok s = .one p r) (q : List UInt8) : tok (s ++ q) = .one p (r ++ q) := by
  cases s with
  | nil => cases h
  | cons c t =>
    rw [tok_cons] at h
    rw [List.cons_append, tok_cons]
    by_cases h1 : c = 42
    · rw [if_pos h1] at h ⊢; cases h; rfl
    rw [if_neg h1] at h ⊢
    by_cases h2 : c = 63
    · rw [if_pos h2] at h ⊢; cases h; rfl
    rw [if_neg h2] at h ⊢
    by_cases h3 : c = 91
    · rw [if_pos h3] at h ⊢
      split at h
      · cases h
      · rename_i p' r' hc
        cases h
        rw [cls_app hc q]
    rw [if_neg h3] at h ⊢
    by_cases h4 : c = 92
    · rw [if_pos h4] at h ⊢
      cases t with
      | nil => cases h
      | cons x r' => cases h; rfl
    rw [if_neg h4] at h ⊢
    cases h; rfl
theorem prs_app : ∀ (s q : List UInt8) {ps : List Pt}, prs s = some ps → prs (s ++ q) = (prs q).map (ps ++ ·) := fun s q ps h => by
  match e : tok s with
  | .fin =>
    rw [prs_fin e] at h; cases h
    have : s = [] := by
      cases s with
      | nil => rfl
      | cons c t => rw [tok_cons] at e; repeat' split at e <;> first | (cases e; done) | skip
    subst this
    simp
  | .bad => rw [prs_bad e] at h; cases h
  | .one p r =>
    have hl := tok_len e
    rw [prs_one e] at h
    simp only [Option.map_eq_some_iff] at h
    obtain ⟨ps', h1, rfl⟩ := h
    rw [prs_one (tok_app e q), prs_app r q h1]
    cases prs q <;> simp
termination_by s => s.length
theorem mt_app : ∀ (ps : List Pt) {qs : List Pt} {a b : List UInt8}, mt ps a = true → mt qs b = true → mt (ps ++ qs) (a ++ b) = true
  | [], qs, a, b, h, k => by
    obtain rfl : a = [] := by simpa [mt] using h
    simpa using k
  | p :: ps, qs, a, b, h, k => by
    by_cases h3 : p.kd = 3
    · rw [mt_run h3] at h
      obtain ⟨n, h1, h2⟩ := h
      rw [List.cons_append, mt_run h3]
      refine ⟨n, by simp; omega, ?_⟩
      rw [List.drop_append_of_le_length h1]
      exact mt_app ps h2 k
    · cases a with
      | nil => rw [mt_none h3] at h; cases h
      | cons c t =>
        rw [mt_one h3, Bool.and_eq_true] at h
        rw [List.cons_append, List.cons_append, mt_one h3, h.1, Bool.true_and]
        exact mt_app ps h.2 k

theorem parseR_ok {s : List UInt8} (h : (parseR s).2 = 0) : s.length ≤ 32 ∧ ∃ ps, prs s = some ps ∧ parseR s = (ps, 0) := by
  unfold parseR at h ⊢
  split at h
  · simp at h
  · rename_i hl
    rw [if_neg hl]
    split at h
    · simp at h
    · rename_i ps hp
      exact ⟨by omega, ps, hp, rfl⟩
theorem parseR_of {s : List UInt8} {ps : List Pt} (hl : s.length ≤ 32) (h : prs s = some ps) : parseR s = (ps, 0) := by
  unfold parseR
  rw [if_neg (by omega), h]
theorem matchR_of {s t : List UInt8} {ps : List Pt} (hl : s.length ≤ 32) (h : prs s = some ps) : matchR s t = mt ps t := by
  unfold matchR
  rw [parseR_of hl h]; simp

theorem law_parts {p q a b : List UInt8} (hp : p.length ≤ 16) (hq : q.length ≤ 16) (ep : (parseR p).2 = 0) (eq : (parseR q).2 = 0) (ma : matchR p a = true) (mb : matchR q b = true) : matchR (p ++ q) (a ++ b) = true := by
  obtain ⟨_, ps, h1, _⟩ := parseR_ok ep
  obtain ⟨_, qs, h2, _⟩ := parseR_ok eq
  rw [matchR_of (by omega) h1] at ma
  rw [matchR_of (by omega) h2] at mb
  rw [matchR_of (ps := ps ++ qs) (by simp; omega) (by rw [prs_app p q h1, h2]; rfl)]
  exact mt_app ps ma mb

/-! ### A text that is written behind \ -/
def esc (t : List UInt8) : List UInt8 := t.flatMap fun c => [92, c]
theorem esc_cons (c : UInt8) (t : List UInt8) : esc (c :: t) = 92 :: c :: esc t := rfl
theorem esc_len : ∀ t : List UInt8, (esc t).length = 2 * t.length
  | [] => rfl
  | c :: t => by rw [esc_cons, List.length_cons, List.length_cons, esc_len t, List.length_cons]; omega
theorem prs_esc : ∀ t : List UInt8, prs (esc t) = some (t.map lit)
  | [] => prs_fin rfl
  | c :: t => by
    rw [esc_cons, prs_one (p := lit c) (r := esc t) (by rw [tok_cons]; simp), prs_esc t]; rfl
theorem fits_lit (c d : UInt8) : fits (lit c) d = decide (c = d) := by
  simp only [fits, lit, List.any_cons, List.any_nil, Bool.or_false, hit]
  rw [if_neg (by simp)]
  by_cases h : c = d
  · subst h; simp
  · have : ¬ (c ≤ d ∧ d ≤ c) := fun ⟨h1, h2⟩ => h (UInt8.le_antisymm h1 h2)
    simp [h, this]
theorem mt_lits : ∀ (t x : List UInt8), mt (t.map lit) x = decide (x = t)
  | [], x => by cases x <;> simp [mt]
  | c :: t, [] => by rw [List.map_cons, mt_none (by simp [lit])]; simp
  | c :: t, d :: x => by
    rw [List.map_cons, mt_one (by simp [lit]), fits_lit, mt_lits t x]
    by_cases h1 : c = d <;> by_cases h2 : x = t <;> simp [h1, h2, eq_comm] <;> exact fun e => h2 e.symm
theorem plainR_esc {t : List UInt8} (h : t.length ≤ 15) : plainR (esc t) = (t, true) := by
  unfold plainR
  rw [parseR_of (by rw [esc_len]; omega) (prs_esc t)]
  have e : (t.map lit).map pb = t := by rw [List.map_map]; simp [Function.comp_def, pb, lit]
  rw [if_pos ⟨by simp [lit], rfl⟩, e]
theorem law_itself {t x : List UInt8} (h : t.length ≤ 15) : plainR (esc t) = (t, true) ∧ matchR (esc t) t = true ∧ matchR (esc t) x = decide (t = x) ∧ matchR (42 :: esc t) (x ++ t) = true ∧ matchR (esc t ++ [42]) (t ++ x) = true := by
  have hl := esc_len t
  have hr : prs [42] = some [runP] := by rw [prs_one (p := runP) (r := []) rfl, prs_fin rfl]; rfl
  refine ⟨plainR_esc h, ?_, ?_, ?_, ?_⟩
  · rw [matchR_of (by omega) (prs_esc t), mt_lits]; simp
  · rw [matchR_of (by omega) (prs_esc t), mt_lits]; simp [eq_comm]
  · rw [matchR_of (ps := runP :: t.map lit) (by simp; omega) (by rw [prs_one (p := runP) (r := esc t) rfl, prs_esc]; rfl), mt_run rfl]
    exact ⟨x.length, by simp, by simp [mt_lits]⟩
  · rw [matchR_of (ps := t.map lit ++ [runP]) (by simp; omega) (by rw [prs_app _ _ (prs_esc t), hr]; rfl)]
    refine mt_app _ (by rw [mt_lits]; simp) ?_
    rw [mt_run rfl]
    exact ⟨x.length, Nat.le_refl _, by simp [mt]⟩

/-! ### Sets, and what stands beside them -/
theorem bang_not {s : List UInt8} (h : ∀ t, s ≠ 33 :: t) : bang s = (false, s) := by
  cases s with
  | nil => rfl
  | cons c t => simp only [bang]; rw [if_neg (fun e => h t (by rw [e]))]
theorem cls_two {s : List UInt8} (h : ∀ t, s ≠ 33 :: t) : (cls s = none ∧ cls (33 :: s) = none) ∨ ∃ rs r, r ≠ [] ∧ rs ≠ [] ∧ clsGo s = some (rs, r) ∧ cls s = some (⟨2, rs, false⟩, r.tail) ∧ cls (33 :: s) = some (⟨2, rs, true⟩, r.tail) := by
  unfold cls
  have e1 := bang_not h
  have e2 : bang (33 :: s) = (true, s) := by simp [bang]
  rw [e1, e2]
  simp only
  cases hg : clsGo s with
  | none => exact .inl ⟨rfl, rfl⟩
  | some q =>
    obtain ⟨rs, r⟩ := q
    simp only
    by_cases hr : r = [] ∨ rs = []
    · rw [if_pos hr, if_pos hr]; exact .inl ⟨rfl, rfl⟩
    · rw [if_neg hr, if_neg hr]
      simp only [not_or] at hr
      exact .inr ⟨rs, r, hr.1, hr.2, rfl, rfl, rfl⟩
theorem tok_set_none {s : List UInt8} (h : cls s = none) : tok (91 :: s) = .bad := by rw [tok_cons]; simp [h]
theorem tok_set_some {s r : List UInt8} {p : Pt} (h : cls s = some (p, r)) : tok (91 :: s) = .one p r := by rw [tok_cons]; simp [h]
theorem sets_code {s : List UInt8} (hl : s.length ≤ 30) (h : ∀ t, s ≠ 33 :: t) : (parseR (91 :: s)).2 = (parseR (91 :: 33 :: s)).2 := by
  unfold parseR
  rw [if_neg (by simp; omega), if_neg (by simp; omega)]
  rcases cls_two h with ⟨h1, h2⟩ | ⟨rs, r, _, _, _, h1, h2⟩
  · rw [prs_bad (tok_set_none h1), prs_bad (tok_set_none h2)]
  · rw [prs_one (tok_set_some h1), prs_one (tok_set_some h2)]
    cases prs r.tail <;> rfl
theorem law_sets {s : List UInt8} (hl : s.length ≤ 20) (h : ∀ t, s ++ [93] ≠ 33 :: t) (hno : ∀ c ∈ s, c ≠ 93) (hp : (parseR (91 :: (s ++ [93]))).2 = 0) (c : UInt8) :
    matchR (91 :: (s ++ [93])) [c] ≠ matchR (91 :: 33 :: (s ++ [93])) [c] ∧ matchR (91 :: (s ++ [93])) [] = false ∧ matchR (91 :: 33 :: (s ++ [93])) [c, c] = false := by
  rcases cls_two h with ⟨h1, h2⟩ | ⟨rs, r, hr, hrs, hg, h1, h2⟩
  · have t1 := tok_set_none h1
    have := (parseR_ok hp).2
    obtain ⟨ps, hps, _⟩ := this
    rw [prs_bad t1] at hps; cases hps
  · have t1 := tok_set_some h1
    have t2 := tok_set_some h2
    obtain ⟨pre, hpre⟩ := clsGo_suf _ hg
    obtain ⟨t, rfl⟩ := (clsGo_head _ hg).resolve_left hr
    have ht : t = [] := by
      rcases List.eq_nil_or_concat t with rfl | ⟨t, x, rfl⟩
      · rfl
      · have e : s ++ [93] = (pre ++ 93 :: t) ++ [x] := by rw [hpre]; simp
        have e2 := (List.append_inj' e rfl).1
        exact absurd rfl (hno 93 (by rw [e2]; simp))
    subst ht
    have p1 : prs (91 :: (s ++ [93])) = some [⟨2, rs, false⟩] := by rw [prs_one t1]; simp only [List.tail_cons]; rw [prs_fin rfl]; rfl
    have p2 : prs (91 :: 33 :: (s ++ [93])) = some [⟨2, rs, true⟩] := by rw [prs_one t2]; simp only [List.tail_cons]; rw [prs_fin rfl]; rfl
    rw [matchR_of (by simp; omega) p1, matchR_of (by simp; omega) p2, matchR_of (by simp; omega) p1, matchR_of (by simp; omega) p2]
    refine ⟨?_, ?_, ?_⟩
    · rw [mt_one (by simp), mt_one (by simp)]
      simp only [fits, mt]
      cases rs.any (hit · c) <;> simp
    · rw [mt_none (by simp)]
    · rw [mt_one (by simp)]; simp [mt]

/-! ### Patterns of * and ? -/
def one1 (k : Bool) : List UInt8 := if k then [42] else [63]
def thr (k : Bool) : List UInt8 := if k then [42, 42, 42] else [63]
def rp (k : Bool) : List Pt := if k then [runP] else [anyP]
def rq (k : Bool) : List Pt := if k then [runP, runP, runP] else [anyP]
theorem prs_one1 : ∀ ks : List Bool, prs (ks.flatMap one1) = some (ks.flatMap rp)
  | [] => prs_fin rfl
  | true :: ks => by
    show prs (42 :: ks.flatMap one1) = _
    rw [prs_one (p := runP) (r := ks.flatMap one1) rfl, prs_one1 ks]; rfl
  | false :: ks => by
    show prs (63 :: ks.flatMap one1) = _
    rw [prs_one (p := anyP) (r := ks.flatMap one1) rfl, prs_one1 ks]; rfl
theorem prs_thr : ∀ ks : List Bool, prs (ks.flatMap thr) = some (ks.flatMap rq)
  | [] => prs_fin rfl
  | true :: ks => by
    show prs (42 :: 42 :: 42 :: ks.flatMap thr) = _
    rw [prs_one (p := runP) (r := 42 :: 42 :: ks.flatMap thr) rfl, prs_one (p := runP) (r := 42 :: ks.flatMap thr) rfl, prs_one (p := runP) (r := ks.flatMap thr) rfl, prs_thr ks]; rfl
  | false :: ks => by
    show prs (63 :: ks.flatMap thr) = _
    rw [prs_one (p := anyP) (r := ks.flatMap thr) rfl, prs_thr ks]; rfl
/-- How many single ones; is there a run? -/
def cnt (ps : List Pt) : Nat := (ps.filter fun p => !decide (p.kd = 3)).length
def hasR (ps : List Pt) : Bool := ps.any fun p => decide (p.kd = 3)
theorem mt_ra : ∀ (ps : List Pt) (t : List UInt8), (∀ p ∈ ps, p = runP ∨ p = anyP) → (mt ps t = true ↔ cnt ps = t.length ∨ (hasR ps = true ∧ cnt ps < t.length))
  | [], t, _ => by
    cases t <;> simp [mt, cnt, hasR]
  | p :: ps, t, h => by
    have ih := fun t => mt_ra ps t fun q hq => h q (by simp [hq])
    rcases h p (by simp) with rfl | rfl
    · rw [mt_run rfl]
      have e1 : cnt (runP :: ps) = cnt ps := by simp [cnt, runP]
      have e2 : hasR (runP :: ps) = true := by simp [hasR, runP]
      rw [e1, e2]
      constructor
      · rintro ⟨n, hn, hm⟩
        have := (ih _).1 hm
        rw [List.length_drop] at this
        rcases this with g | ⟨_, g⟩
        · rcases Nat.eq_zero_or_pos n with g0 | g0
          · exact .inl (by omega)
          · exact .inr ⟨rfl, by omega⟩
        · exact .inr ⟨rfl, by omega⟩
      · intro hh
        have hh : cnt ps ≤ t.length := by rcases hh with g | ⟨_, g⟩ <;> omega
        refine ⟨t.length - cnt ps, by omega, (ih _).2 (.inl ?_)⟩
        rw [List.length_drop]; omega
    · have e1 : cnt (anyP :: ps) = cnt ps + 1 := by simp [cnt, anyP]
      have e2 : hasR (anyP :: ps) = hasR ps := by simp [hasR, anyP]
      rw [e1, e2]
      cases t with
      | nil => rw [mt_none (by simp [anyP])]; simp
      | cons c t =>
        have hf : fits anyP c = true := by simp [fits, anyP]
        rw [mt_one (by simp [anyP]), hf, Bool.true_and, ih t]
        simp only [List.length_cons]
        by_cases hh : hasR ps = true <;> simp [hh] <;> omega
theorem rp_mem {ks : List Bool} : ∀ p ∈ ks.flatMap rp, p = runP ∨ p = anyP := by
  intro p hp
  obtain ⟨k, _, hk⟩ := List.mem_flatMap.1 hp
  cases k <;> simp [rp] at hk
  · exact .inr hk
  · exact .inl hk
theorem rq_mem {ks : List Bool} : ∀ p ∈ ks.flatMap rq, p = runP ∨ p = anyP := by
  intro p hp
  obtain ⟨k, _, hk⟩ := List.mem_flatMap.1 hp
  cases k <;> simp [rq] at hk
  · exact .inr hk
  · exact .inl hk
def lst (ks : List Bool) : Nat := (ks.filter fun k => !k).length
def anyT (ks : List Bool) : Bool := ks.any fun k => k
theorem cnt_rp : ∀ ks : List Bool, cnt (ks.flatMap rp) = lst ks ∧ hasR (ks.flatMap rp) = anyT ks
  | [] => ⟨rfl, rfl⟩
  | true :: ks => by
    have := cnt_rp ks
    simp only [cnt, hasR, lst, anyT] at this ⊢
    simp [rp, runP, this.1]
  | false :: ks => by
    have := cnt_rp ks
    simp only [cnt, hasR, lst, anyT] at this ⊢
    simp [rp, anyP, this.1, this.2]
theorem cnt_rq : ∀ ks : List Bool, cnt (ks.flatMap rq) = lst ks ∧ hasR (ks.flatMap rq) = anyT ks
  | [] => ⟨rfl, rfl⟩
  | true :: ks => by
    have := cnt_rq ks
    simp only [cnt, hasR, lst, anyT] at this ⊢
    simp [rq, runP, this.1]
  | false :: ks => by
    have := cnt_rq ks
    simp only [cnt, hasR, lst, anyT] at this ⊢
    simp [rq, anyP, this.1, this.2]
theorem len_thr : ∀ ks : List Bool, (ks.flatMap thr).length ≤ 3 * ks.length ∧ (ks.flatMap one1).length = ks.length
  | [] => by simp
  | true :: ks => by have := len_thr ks; simp [thr, one1] at this ⊢; omega
  | false :: ks => by have := len_thr ks; simp [thr, one1] at this ⊢; omega
def want (ks : List Bool) (t : List UInt8) : Bool := decide (t.length = lst ks) || (anyT ks && decide (lst ks < t.length))
theorem law_runs {ks : List Bool} (h : ks.length ≤ 10) (t : List UInt8) : matchR (ks.flatMap one1) t = want ks t ∧ matchR (ks.flatMap thr) t = want ks t ∧ (parseR (ks.flatMap thr)).2 = 0 := by
  obtain ⟨h1, h2⟩ := len_thr ks
  have key : ∀ ps : List Pt, (∀ p ∈ ps, p = runP ∨ p = anyP) → cnt ps = lst ks → hasR ps = anyT ks → mt ps t = want ks t := fun ps hm hc hr => by
    have := mt_ra ps t hm
    rw [hc, hr] at this
    unfold want
    cases hmt : mt ps t
    · rw [hmt] at this
      have h4 : ¬ (lst ks = t.length ∨ anyT ks = true ∧ lst ks < t.length) := fun h => by simpa using this.2 h
      simp only [not_or, not_and] at h4
      have h5 : ¬ t.length = lst ks := fun e => h4.1 e.symm
      cases ha : anyT ks
      · simp [h5]
      · simp [h5]; have := h4.2 ha; omega
    · have h4 := this.1 hmt
      rcases h4 with h4 | ⟨h4, h5⟩
      · simp [h4]
      · simp [h4, h5]
  refine ⟨?_, ?_, ?_⟩
  · rw [matchR_of (by omega) (prs_one1 ks)]
    exact key _ rp_mem (cnt_rp ks).1 (cnt_rp ks).2
  · rw [matchR_of (by omega) (prs_thr ks)]
    exact key _ rq_mem (cnt_rq ks).1 (cnt_rq ks).2
  · rw [parseR_of (by omega) (prs_thr ks)]
end L15
