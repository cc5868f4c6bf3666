import Derived.Test.YtjjocbijmhmdkaaL18zk
open Go Ab Go.Proofs
namespace L18
set_option autoImplicit false
set_option linter.unusedSimpArgs false
set_option linter.unusedVariables false

/-! ### When both go on, all comes -/
structure HS (x y : Hf) : Prop where
  w : y.wait = x.wait
  c : y.closed = x.closed
  t : y.told = x.told
theorem HS.rfl' {x : Hf} : HS x x := ⟨rfl, rfl, rfl⟩
theorem HS.trans {x y z : Hf} (a : HS x y) (b : HS y z) : HS x z := ⟨b.w.trans a.w, b.c.trans a.c, b.t.trans a.t⟩
theorem mtake_hs {o : List Hf} {i : List Ot} (f : Fr) (c : Nat) (ho : o.length = 4) : HS (hg o c) (hg (mtake o i f).2.1 c) := by
  unfold mtake
  split
  · rcases f.2 with _ | ⟨b0, _ | ⟨b1, _ | ⟨b2, _ | ⟨b3, _ | ⟨b4, d⟩⟩⟩⟩⟩
    · exact .rfl'
    · exact .rfl'
    · exact .rfl'
    · exact .rfl'
    · simp only [mctrl]
      by_cases h4 : 4 ≤ b1.toNat
      · rw [if_pos h4]; exact .rfl'
      rw [if_neg h4]
      split
      · split
        · exact .rfl'
        · by_cases e : c = b1.toNat
          · subst e
            simp only
            rw [hg_set (by omega)]; exact ⟨rfl, rfl, rfl⟩
          · simp only
            rw [hg_ne e]; exact .rfl'
      · split
        · exact .rfl'
        · split <;> exact .rfl'
    · exact .rfl'
  · simp only
    repeat' split
    all_goals exact .rfl'
theorem ppass_hs {n m : Nat} (hm : m ≤ 1000000) {t : Nat} (ht : t < 2) (c : Nat) : ∀ (u : Nat) (P : PS), JB n m P → HS (hg (P.o t) c) (hg ((ppass t u P).o t) c)
  | 0, P, _ => .rfl'
  | u + 1, P, k => by
    rw [ppass]
    split
    · exact .rfl'
    · rename_i f W hW
      obtain ⟨_, k2⟩ := (JB.pass hm ht).ok P f W k hW
      have h1 := ppass_hs hm ht c u _ k2
      have h2 := mtake_hs (i := P.i t) f c (k.inv.mi t ht).ol
      simp only [pstep1, up_same] at h1 ⊢
      exact h2.trans h1
theorem no_ev {W : List Fr} {E : List Ev} (h : W = E.map Ev.enc) (hw : W = []) : E = [] := by
  rw [hw] at h
  cases E with
  | nil => rfl
  | cons e E => simp at h
structure Ph (P P' : PS) (s : Nat) : Prop where
  wt : P'.way (1 - s) = []
  ws : P'.way s = P.way s
  come : ∀ c, c < 4 → (og (P'.i (1 - s)) c).come = []
  o : ∀ c, c < 4 → hg (P'.o s) c = ⟨(hg (P.o s) c).wait.drop (cutOf (hg (P.o s) c)), (hg (P.o s) c).credit - cutOf (hg (P.o s) c), (hg (P.o s) c).closed, (hg (P.o s) c).told || finOf (hg (P.o s) c)⟩
  i : ∀ c, c < 4 → og (P'.i s) c = ⟨(og (P.i s) c).come, (og (P.i s) c).room + (og (P.i s) c).untold, 0, (og (P.i s) c).ended⟩
  ot : ∀ c, c < 4 → HS (hg (P.o (1 - s)) c) (hg (P'.o (1 - s)) c)
theorem phase_ph {n m : Nat} {P : PS} (k : JB n m P) (hm : m + 16 ≤ 1000000) {s : Nat} (hs : s < 2) (hf : (P.way (1 - s)).length ≤ 984) : Ph P (phase s P) s := by
  have ht : 1 - s < 2 := by omega
  have hne : (1 - s) ≠ s := by omega
  have mi := k.inv.mi s hs
  obtain ⟨w1, w2⟩ := phase_way (P := P) hs
  obtain ⟨o1, i1, _⟩ := phase_o (P := P) hs
  have hfew := mout_few mi
  refine ⟨?_, w2, fun c hc => ?_, fun c hc => ?_, fun c hc => ?_, fun c hc => ?_⟩
  · rw [w1, List.drop_eq_nil_iff, List.length_append]; omega
  · exact pgets_come (ppass_I (JB.pass hm ht) 1000 _ (k.out hs)) ht 4 (by omega) c hc
  · rw [o1]; exact (out_st mi hc).1
  · rw [i1]; exact (out_st mi hc).2
  · have h := ppass_hs hm ht c 1000 _ (k.out hs)
    have e : (phase s P).o = (ppass (1 - s) 1000 (pout P s)).o := (pgets_o 4).1
    rw [e]
    simp only [pout, up_ne _ _ hne] at h ⊢
    exact h
def turn (P : PS) : PS := phase 1 (phase 0 P)
theorem turn_JB {n m : Nat} {P : PS} (k : JB n m P) (hm : m + 32 ≤ 1000000) : JB n (m + 32) (turn P) :=
  (phase_JB (phase_JB k (by omega) (s := 0) (by omega)) (by omega) (s := 1) (by omega)).mono (by omega) (by omega)
structure Nn (P : PS) : Prop where
  w0 : P.way 0 = []
  w1 : P.way 1 = []
  c0 : ∀ c, c < 4 → (og (P.i 0) c).come = []
  c1 : ∀ c, c < 4 → (og (P.i 1) c).come = []
  u : ∀ c, c < 4 → (og (P.i 1) c).untold = 0
theorem turn_fit {n m : Nat} {P : PS} (k : JB n m P) (hm : m + 32 ≤ 1000000) (h1 : (P.way 1).length ≤ 984) (h0 : (P.way 0).length ≤ 984) : Nn (turn P) := by
  have p := phase_ph k (by omega) (s := 0) (by omega) h1
  have k1 := phase_JB k (by omega) (s := 0) (by omega)
  have q := phase_ph k1 (by omega) (s := 1) (by omega) (by show ((phase 0 P).way 0).length ≤ 984; rw [p.ws]; exact h0)
  exact ⟨q.wt, by show (phase 1 (phase 0 P)).way 1 = []; rw [q.ws]; exact p.wt, q.come, fun c hc => by show (og ((phase 1 (phase 0 P)).i 1) c).come = []; rw [q.i c hc]; exact p.come c hc, fun c hc => by show (og ((phase 1 (phase 0 P)).i 1) c).untold = 0; rw [q.i c hc]⟩
/-- How one half goes on: all that one credit lets. -/
structure Go1 (x y : Hf) : Prop where
  w : y.wait = x.wait.drop (min x.wait.length 1024)
  c : y.closed = x.closed
  t : y.wait = [] → y.told = x.closed
theorem go1 {x y : Hf} (hc : x.credit = 1024) (ht : x.told = true → x.closed = true) (w : y.wait = x.wait.drop (cutOf x)) (c : y.closed = x.closed) (t : y.told = (x.told || finOf x)) : Go1 x y := by
  have e : cutOf x = min x.wait.length 1024 := by unfold cutOf cutn; rw [hc]; rfl
  refine ⟨by rw [w, e], c, fun h => ?_⟩
  rw [w] at h
  rw [t]
  unfold finOf mend
  rw [h]
  cases h1 : x.told
  · simp
  · simp [ht h1]
theorem turn_go {n m : Nat} {P : PS} (k : JB n m P) (hm : m + 32 ≤ 1000000) (N : Nn P) : (∀ s c, s < 2 → c < 4 → Go1 (hg (P.o s) c) (hg ((turn P).o s) c)) ∧ ((∀ c, c < 4 → (hg (P.o 1) c).wait = []) → ∀ c, c < 4 → (og ((turn P).i 0) c).untold = 0) := by
  have p := phase_ph k (by omega) (s := 0) (by omega) (by show (P.way 1).length ≤ 984; rw [N.w1]; simp)
  have k1 := phase_JB k (by omega) (s := 0) (by omega)
  have h00 : (phase 0 P).way 0 = [] := by rw [p.ws]; exact N.w0
  have q := phase_ph k1 (by omega) (s := 1) (by omega) (by show ((phase 0 P).way 0).length ≤ 984; rw [h00]; simp)
  have k2 := phase_JB k1 (by omega) (s := 1) (by omega)
  have hN := turn_fit k hm (by rw [N.w1]; simp) (by rw [N.w0]; simp)
  obtain ⟨E, e1, e2⟩ := k.inv.ex
  have E0 := no_ev (e1 0 (by omega)).1 N.w0
  have E1 := no_ev (e1 1 (by omega)).1 N.w1
  obtain ⟨F, f1, f2⟩ := k1.inv.ex
  have F0 := no_ev (f1 0 (by omega)).1 h00
  have F1 := no_ev (f1 1 (by omega)).1 p.wt
  obtain ⟨G, g1, g2⟩ := k2.inv.ex
  have G0 := no_ev (g1 0 (by omega)).1 hN.w0
  have G1 := no_ev (g1 1 (by omega)).1 hN.w1
  have cr1 : ∀ c, c < 4 → (hg ((phase 0 P).o 1) c).credit = 1024 := fun c hc => by
    have ci := (f2 1 c (by omega) hc).cred
    simp only [Nat.sub_self] at ci
    rw [F0, F1, p.i c hc, N.c0 c hc] at ci
    simp [dat, crd] at ci
    omega
  refine ⟨fun s c hs hc => ?_, fun hw c hc => ?_⟩
  · rcases (show s = 0 ∨ s = 1 by omega) with rfl | rfl
    · have ci := e2 0 c (by omega) hc
      have cr : (hg (P.o 0) c).credit = 1024 := by
        have := ci.cred
        simp only [Nat.sub_zero] at this
        rw [E0, E1, N.c1 c hc, N.u c hc] at this
        simp [dat, crd] at this
        omega
      have hq := q.ot c hc
      have hp := p.o c hc
      refine go1 cr (fun h => (ci.told h).1) ?_ ?_ ?_
      · exact hq.w.trans (by rw [hp])
      · exact hq.c.trans (by rw [hp])
      · exact hq.t.trans (by rw [hp])
    · have ci := f2 1 c (by omega) hc
      have hp : HS (hg (P.o 1) c) (hg ((phase 0 P).o 1) c) := p.ot c hc
      have hq : hg ((turn P).o 1) c = _ := q.o c hc
      have := go1 (cr1 c hc) (fun h => (ci.told h).1) (by rw [hq]) (by rw [hq]) (by rw [hq]) (y := hg ((turn P).o 1) c)
      exact ⟨by rw [this.w, hp.w], this.c.trans hp.c, fun h => (this.t h).trans hp.c⟩
  · have hp : HS (hg (P.o 1) c) (hg ((phase 0 P).o 1) c) := p.ot c hc
    have hq := q.o c hc
    have e0 : (og ((phase 1 (phase 0 P)).i 0) c).come = [] := hN.c0 c hc
    have ci := (g2 1 c (by omega) hc).cred
    simp only [Nat.sub_self] at ci
    have hcut : cutOf (hg ((phase 0 P).o 1) c) = 0 := by
      unfold cutOf cutn
      rw [hp.w]
      show min (hg (P.o 1) c).wait.length _ = 0
      rw [hw c hc]; simp
    rw [G0, G1, hq, hcut, cr1 c hc, e0] at ci
    simp [dat, crd] at ci
    show (og ((phase 1 (phase 0 P)).i 0) c).untold = 0
    omega
def turns : Nat → PS → PS
  | 0, P => P
  | u + 1, P => turn (turns u P)
theorem turns_JB {n m : Nat} {P : PS} (k : JB n m P) : ∀ u, m + 32 * u ≤ 1000000 → JB n (m + 32 * u) (turns u P)
  | 0, _ => k
  | u + 1, h => (turn_JB (turns_JB k u (by omega)) (by omega)).mono (by omega) (by omega)
theorem turns_N {n : Nat} {P : PS} (k : JB n 1280 P) : ∀ u, Nn (turns (u + 2) P) ∨ 20000 < u
  | 0 => by
    left
    have k1 := turns_JB k 1 (by omega)
    have kk := phase_JB k (by omega) (s := 0) (by omega)
    have a1 := phase_way (P := P) (s := 0) (by omega)
    have a2 := phase_way (P := phase 0 P) (s := 1) (by omega)
    have f1 := mout_few (k.inv.mi 0 (by omega))
    have f2 := mout_few (kk.inv.mi 1 (by omega))
    have w1 := k.way 1
    have w0 := k.way 0
    refine turn_fit k1 (by omega) ?_ ?_
    · show ((phase 1 (phase 0 P)).way 1).length ≤ 984
      rw [a2.2, show (1 : Nat) = 1 - 0 from rfl, a1.1, List.length_drop, List.length_append]
      simp only [Nat.sub_zero] at *
      omega
    · show ((phase 1 (phase 0 P)).way (1 - 1)).length ≤ 984
      rw [a2.1, List.length_drop, List.length_append, show (1 : Nat) - 1 = 0 from rfl, a1.2]
      omega
  | u + 1 => by
    rcases turns_N k u with h | h
    · by_cases hu : u ≤ 20000
      · left
        have kk := turns_JB k (u + 2) (by omega)
        exact turn_fit kk (by omega) (by rw [h.w1]; simp) (by rw [h.w0]; simp)
      · right; omega
    · right; omega
theorem turns_W {n : Nat} {P : PS} (k : JB n 1280 P) : ∀ u, u ≤ 1000 → ∀ s c, s < 2 → c < 4 → (hg ((turns (u + 2) P).o s) c).wait.length ≤ 4096 - 1024 * u ∧ (0 < u → (hg ((turns (u + 2) P).o s) c).wait = [] → (hg ((turns (u + 2) P).o s) c).told = (hg ((turns (u + 2) P).o s) c).closed)
  | 0, _, s, c, hs, hc => ⟨by have := ((turns_JB k 2 (by omega)).inv.mi s hs).w c; omega, fun h => by omega⟩
  | u + 1, hu, s, c, hs, hc => by
    obtain ⟨h1, _⟩ := turns_W k u (by omega) s c hs hc
    have kk := turns_JB k (u + 2) (by omega)
    have N : Nn (turns (u + 2) P) := by
      rcases turns_N k u with h | h
      · exact h
      · omega
    have g := (turn_go kk (by omega) N).1 s c hs hc
    refine ⟨?_, fun _ h => ?_⟩
    · show (hg ((turn (turns (u + 2) P)).o s) c).wait.length ≤ _
      rw [g.w, List.length_drop]; omega
    · show (hg ((turn (turns (u + 2) P)).o s) c).told = (hg ((turn (turns (u + 2) P)).o s) c).closed
      rw [g.t h, g.c]
/-- At the end all has come. -/
theorem all_come {n : Nat} {P : PS} (k : JB n 1280 P) : (∀ s c, s < 2 → c < 4 → ((turns 20 P).rd (s * 4 + c)).length = ((turns 20 P).wr ((1 - s) * 4 + c)).length ∧ mended ((turns 20 P).i s) c = (turns 20 P).cl ((1 - s) * 4 + c)) ∧ ∀ s, s < 2 → midle ((turns 20 P).o s) ((turns 20 P).i s) = true := by
  have kk := turns_JB k 20 (by omega)
  have N : Nn (turns 20 P) := by
    rcases turns_N k 18 with h | h
    · exact h
    · omega
  have N19 : Nn (turns 19 P) := by
    rcases turns_N k 17 with h | h
    · exact h
    · omega
  have W : ∀ s c, s < 2 → c < 4 → (hg ((turns 20 P).o s) c).wait = [] := fun s c hs hc => by
    have := (turns_W k 18 (by omega) s c hs hc).1
    exact List.length_eq_zero_iff.1 (by show (hg ((turns (18 + 2) P).o s) c).wait.length = 0; omega)
  have W19 : ∀ c, c < 4 → (hg ((turns 19 P).o 1) c).wait = [] := fun c hc => by
    have := (turns_W k 17 (by omega) 1 c (by omega) hc).1
    exact List.length_eq_zero_iff.1 (by show (hg ((turns (17 + 2) P).o 1) c).wait.length = 0; omega)
  have T : ∀ s c, s < 2 → c < 4 → (hg ((turns 20 P).o s) c).told = (hg ((turns 20 P).o s) c).closed := fun s c hs hc => (turns_W k 18 (by omega) s c hs hc).2 (by omega) (W s c hs hc)
  have U1 := (turn_go (turns_JB k 19 (by omega)) (by omega) N19).2 W19
  have U0 : ∀ c, c < 4 → (og ((turns 20 P).i 0) c).untold = 0 := by
    rw [show (20 : Nat) = 19 + 1 from rfl]
    rw [turns]
    exact U1
  obtain ⟨E, e1, e2⟩ := kk.inv.ex
  have E0 := no_ev (e1 0 (by omega)).1 N.w0
  have E1 := no_ev (e1 1 (by omega)).1 N.w1
  have Es : ∀ s, s < 2 → E s = [] := fun s hs => by
    rcases (show s = 0 ∨ s = 1 by omega) with rfl | rfl
    · exact E0
    · exact E1
  have C : ∀ s c, s < 2 → c < 4 → (og ((turns 20 P).i s) c).come = [] := fun s c hs hc => by
    rcases (show s = 0 ∨ s = 1 by omega) with rfl | rfl
    · exact N.c0 c hc
    · exact N.c1 c hc
  refine ⟨fun s c hs hc => ?_, fun s hs => ?_⟩
  · have hts : 1 - (1 - s) = s := by omega
    have ci := e2 (1 - s) c (by omega) hc
    rw [hts, Es s hs] at ci
    have hd := ci.data
    rw [C s c hs hc, W (1 - s) c (by omega) hc] at hd
    simp [dat] at hd
    refine ⟨by rw [hd], ?_⟩
    have hf := ci.fin
    rw [T (1 - s) c (by omega) hc, ← ci.cl] at hf
    unfold mended
    rw [if_pos (by omega), Int.toNat_natCast, C s c hs hc]
    have h1 : b2n true = 1 := rfl
    have h2 : b2n false = 0 := rfl
    cases ha : (og ((turns 20 P).i s) c).ended <;> cases hb : (turns 20 P).cl ((1 - s) * 4 + c) <;> rw [ha, hb] at hf <;> simp [ends] at hf ⊢ <;> omega
  · rw [midle, List.all_eq_true]
    intro c hc
    have hc4 : c < 4 := List.mem_range.1 hc
    have hu : (og ((turns 20 P).i s) c).untold = 0 := by
      rcases (show s = 0 ∨ s = 1 by omega) with rfl | rfl
      · exact U0 c hc4
      · exact N.u c hc4
    have : busy (hg ((turns 20 P).o s) c) (og ((turns 20 P).i s) c) = false := by
      simp only [busy, W s c hs hc4, hu, mend, T s c hs hc4]
      simp
    rw [this]; rfl
end L18
