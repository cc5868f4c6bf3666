import Derived.Test.YtjjocbijmhmdkaaL18zj
open Go Ab Go.Proofs
namespace L18
set_option autoImplicit false
set_option linter.unusedSimpArgs false
set_option linter.unusedVariables false

/-! ### How many frames -/
theorem mcut_few (ch : Nat) : ∀ (k : Nat) (w : List UInt8) (cr : Int), w.length ≤ k → 0 ≤ cr → ((mcut ch w cr).1.length : Int) * 512 ≤ cr + 511
  | k, w, cr, hk, hc => by
    by_cases h : 0 < w.length ∧ 0 < cr
    · obtain ⟨n, hn⟩ : ∃ n, n = min (min w.length cr.toNat) 512 := ⟨_, rfl⟩
      rw [mcut_step h hn]
      match k with
      | 0 => omega
      | k + 1 =>
        have ih := mcut_few ch k (w.drop n) (cr - n) (by simp; omega) (by omega)
        simp only [List.length_cons]
        by_cases h5 : n = 512
        · omega
        · have hst : mcut ch (w.drop n) (cr - n) = ([], w.drop n, cr - n) := mcut_stop (by simp; omega)
          rw [hst]
          simp; omega
    · rw [mcut_stop h]; simp; omega
theorem out1_few {o : List Hf} {i : List Ot} (k : MI o i) (c : Nat) : (mout1 o i c).1.length ≤ 4 := by
  have h1 := mcut_few c _ (hg o c).wait (hg o c).credit (Nat.le_refl _) (k.cr0 c)
  have h3 := k.cr1 c
  simp only [mout1, List.length_append]
  have a1 : ∀ (b : Bool) (x : Fr), (if b = true then [x] else []).length ≤ 1 := fun b x => by cases b <;> simp
  have a2 : ∀ (p : Prop) [Decidable p] (x : Fr), (if p then [x] else []).length ≤ 1 := fun p _ x => by split <;> simp
  have := a1 (mend (hg o c) (mcut c (hg o c).wait (hg o c).credit).2.1) (toldF 2 c 0)
  have := a2 (0 < (og i c).untold) (toldF 1 c (og i c).untold.toNat)
  omega
theorem outN_few {o : List Hf} {i : List Ot} (k : MI o i) : ∀ j, j ≤ 4 → (moutN o i j).1.length ≤ j * 4
  | 0, _ => by simp [moutN]
  | j + 1, hj => by
    have h2 := outN_few k j (by omega)
    have := out1_few (k.outN j (by omega)).1 j
    simp only [moutN, List.length_append]
    omega
theorem mout_few {o : List Hf} {i : List Ot} (k : MI o i) : (mout o i).1.length ≤ 16 := outN_few k 4 (by omega)

structure JB (n m : Nat) (P : PS) : Prop where
  inv : Inv P
  wr : ∀ k, (P.wr k).length ≤ n
  way : ∀ s, (P.way s).length ≤ m
theorem JB.mono {n m n' m' : Nat} {P : PS} (k : JB n m P) (h : n ≤ n') (h' : m ≤ m') : JB n' m' P := ⟨k.inv, fun j => Nat.le_trans (k.wr j) h, fun j => Nat.le_trans (k.way j) h'⟩
theorem JB.get {n m : Nat} {P : PS} (k : JB n m P) {s c : Nat} (z : Int) (hs : s < 2) (hc : c < 4) : JB n m (pget P s c z) := ⟨k.inv.read z hs hc, k.wr, k.way⟩
theorem JB.close {n m : Nat} {P : PS} (k : JB n m P) {s c : Nat} (hs : s < 2) (hc : c < 4) : JB n m (pclose P s c) := ⟨k.inv.close hs hc, k.wr, k.way⟩
theorem JB.write {n m : Nat} {P : PS} (k : JB n m P) {s c : Nat} {d : List UInt8} (hs : s < 2) (hc : c < 4) : JB (n + d.length) m (pwrite P s c d) := by
  refine ⟨k.inv.write d hs hc, fun j => ?_, k.way⟩
  have := k.wr j
  simp only [pwrite]
  split
  · simp only [up]
    split
    · rename_i h; rw [List.length_append, ← h]; omega
    · omega
  · omega
theorem JB.out {n m : Nat} {P : PS} (k : JB n m P) {s : Nat} (hs : s < 2) : JB n (m + 16) (pout P s) := by
  refine ⟨k.inv.out hs, k.wr, fun j => ?_⟩
  have h1 := k.way j
  have h2 := k.way (1 - s)
  have := mout_few (k.inv.mi s hs)
  simp only [pout, up]
  split
  · rw [List.length_append]; omega
  · omega
theorem JB.pass {n m : Nat} (hm : m ≤ 1000000) {s : Nat} (hs : s < 2) : PassI (JB n m) s := by
  refine ⟨fun P k => k.inv.mi s hs, fun P k f hf => ?_, fun P k => Nat.le_trans (k.way s) hm, fun P f W k hW => ?_⟩
  · obtain ⟨E, h1, _⟩ := k.inv.ex
    obtain ⟨g1, g2⟩ := h1 s hs
    rw [g1] at hf
    obtain ⟨e, he, rfl⟩ := List.mem_map.1 hf
    have := g2 e he
    cases e with
    | d c b => exact this.2.2
    | e c => simp [Ev.enc, toldF]
    | k c n => simp [Ev.enc, toldF]
  · obtain ⟨h1, h2⟩ := k.inv.take hs hW
    refine ⟨h1, h2, k.wr, fun j => ?_⟩
    have a1 := k.way j
    have a2 := k.way s
    rw [hW, List.length_cons] at a2
    simp only [pstep1, up]
    split <;> omega
theorem JB.step {n m : Nat} (hn : n ≤ 1000000) (hm : m ≤ 1000000) : StepI (JB n m) :=
  ⟨fun P s k hs => k.inv.mi s hs, fun P s c z k hs hc => k.inv.get z hs hc, fun s hs => JB.pass hm hs, fun P j k => Nat.le_trans (k.wr j) hn⟩
theorem ppass_I {I : PS → Prop} {s : Nat} (hI : PassI I s) : ∀ (n : Nat) (P : PS), I P → I (ppass s n P)
  | 0, P, h => h
  | n + 1, P, h => by
    rw [ppass]
    split
    · exact h
    · rename_i f W hW
      exact ppass_I hI n _ (hI.ok P f W h hW).2
theorem JB.pstep {n m : Nat} {P : PS} (k : JB n m P) (hm : m ≤ 1000000) (q : Op) (j : Nat) : JB (n + 8191) (m + 16) (pstep P q j) := by
  have hs2 : msk q.1.side 1 < 2 := by have := msk_le q.1.side 1; omega
  have hc4 : msk q.1.chan 3 < 4 := by have := msk_le q.1.chan 3; omega
  have hsz := szO_le q
  simp only [L18.pstep]
  split
  · exact (k.write hs2 hc4).mono (by rw [txt_len]; omega) (by omega)
  · split
    · exact (k.close hs2 hc4).mono (by omega) (by omega)
    · split
      · exact (k.get _ hs2 hc4).mono (by omega) (by omega)
      · split
        · exact (k.out hs2).mono (by omega) (by omega)
        · exact (ppass_I (JB.pass hm hs2) _ _ k).mono (by omega) (by omega)

/-! ### Both go on -/
structure Same2 (t : Nat) (P P' : PS) : Prop where
  o : ∀ s, s ≠ t → P'.o s = P.o s
  i : ∀ s, s ≠ t → P'.i s = P.i s
  way : ∀ s, s ≠ t → P'.way s = P.way s
  wr : P'.wr = P.wr
  cl : P'.cl = P.cl
theorem Same2.rfl {t : Nat} {P : PS} : Same2 t P P := ⟨fun _ _ => by rfl, fun _ _ => by rfl, fun _ _ => by rfl, by rfl, by rfl⟩
theorem Same2.trans {t : Nat} {P P' P'' : PS} (a : Same2 t P P') (b : Same2 t P' P'') : Same2 t P P'' :=
  ⟨fun s h => (b.o s h).trans (a.o s h), fun s h => (b.i s h).trans (a.i s h), fun s h => (b.way s h).trans (a.way s h), b.wr.trans a.wr, b.cl.trans a.cl⟩
theorem pstep1_same {P : PS} {t : Nat} {f : Fr} {W : List Fr} : Same2 t P (pstep1 P t f W) :=
  ⟨fun s h => up_ne _ _ h, fun s h => up_ne _ _ h, fun s h => up_ne _ _ h, rfl, rfl⟩
theorem ppass_same {t : Nat} : ∀ (n : Nat) (P : PS), Same2 t P (ppass t n P)
  | 0, P => .rfl
  | n + 1, P => by
    rw [ppass]
    split
    · exact .rfl
    · exact pstep1_same.trans (ppass_same n _)
theorem ppass_way {t : Nat} : ∀ (n : Nat) (P : PS), (ppass t n P).way t = (P.way t).drop n
  | 0, P => rfl
  | n + 1, P => by
    rw [ppass]
    split
    · rename_i h; rw [h]; rfl
    · rename_i f W h
      rw [ppass_way n, h, List.drop_succ_cons]
      simp only [pstep1, up_same]
theorem pget_same {P : PS} {t c : Nat} {n : Int} : Same2 t P (pget P t c n) := ⟨fun s h => rfl, fun s h => up_ne _ _ h, fun s h => rfl, rfl, rfl⟩
def pgets (t : Nat) : Nat → PS → PS
  | 0, P => P
  | c + 1, P => pget (pgets t c P) t c 5000
theorem pgets_same {P : PS} {t : Nat} : ∀ c, Same2 t P (pgets t c P)
  | 0 => .rfl
  | c + 1 => (pgets_same c).trans pget_same
theorem pgets_o {P : PS} {t : Nat} : ∀ c, (pgets t c P).o = P.o ∧ (pgets t c P).way = P.way
  | 0 => ⟨rfl, rfl⟩
  | c + 1 => pgets_o c
theorem pgets_JB {n m : Nat} {P : PS} (k : JB n m P) {t : Nat} (ht : t < 2) : ∀ c, c ≤ 4 → JB n m (pgets t c P)
  | 0, _ => k
  | c + 1, hc => (pgets_JB k ht c (by omega)).get 5000 ht (by omega)
theorem pgets_come {n m : Nat} {P : PS} (k : JB n m P) {t : Nat} (ht : t < 2) : ∀ c, c ≤ 4 → ∀ d, d < c → (og ((pgets t c P).i t) d).come = []
  | 0, _, d, hd => by omega
  | c + 1, hc, d, hd => by
    have kc := pgets_JB k ht c (by omega)
    have mi := kc.inv.mi t ht
    have hil : c < ((pgets t c P).i t).length := by rw [mi.il]; omega
    have hsum := mi.sum c (by omega)
    have hr0 := mi.r0 c
    have hu0 := mi.u0 c
    simp only [pgets, pget, up_same]
    unfold mread
    rw [if_neg (by omega), Int.toNat_natCast]
    by_cases e : d = c
    · subst e
      rw [og_set hil]
      simp only [List.drop_eq_nil_iff]
      have : (5000 : Int).toNat = 5000 := rfl
      omega
    · simp only
      rw [og_ne e]
      exact pgets_come k ht c (by omega) d (by omega)
def phase (s : Nat) (P : PS) : PS := pgets (1 - s) 4 (ppass (1 - s) 1000 (pout P s))
theorem phase_JB {n m : Nat} {P : PS} (k : JB n m P) (hm : m + 16 ≤ 1000000) {s : Nat} (hs : s < 2) : JB n (m + 16) (phase s P) :=
  pgets_JB (ppass_I (JB.pass hm (by omega)) _ _ (k.out hs)) (by omega) 4 (by omega)
theorem phase_way {P : PS} {s : Nat} (hs : s < 2) : (phase s P).way (1 - s) = (P.way (1 - s) ++ (mout (P.o s) (P.i s)).1).drop 1000 ∧ (phase s P).way s = P.way s := by
  have hne : s ≠ 1 - s := by omega
  constructor
  · rw [phase, (pgets_o 4).2, ppass_way]
    simp only [pout, up_same]
  · rw [phase, (pgets_o 4).2, (ppass_same 1000 _).way s hne]
    simp only [pout, up_ne _ _ hne]
theorem phase_o {P : PS} {s : Nat} (hs : s < 2) : (phase s P).o s = (mout (P.o s) (P.i s)).2.1 ∧ (phase s P).i s = (mout (P.o s) (P.i s)).2.2 ∧ (phase s P).cl = P.cl := by
  have hne : s ≠ 1 - s := by omega
  have h := (ppass_same (t := 1 - s) 1000 (pout P s)).trans (pgets_same (P := ppass (1 - s) 1000 (pout P s)) 4)
  refine ⟨?_, ?_, h.cl⟩
  · show (pgets (1 - s) 4 (ppass (1 - s) 1000 (pout P s))).o s = _
    rw [h.o s hne]; simp only [pout, up_same]
  · show (pgets (1 - s) 4 (ppass (1 - s) 1000 (pout P s))).i s = _
    rw [h.i s hne]; simp only [pout, up_same]
end L18
