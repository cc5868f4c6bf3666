import Derived.Test.YtjjocbijmhmdkaaAbI
namespace Ab
open Go
set_option autoImplicit false
set_option linter.unusedVariables false
set_option linter.unusedSimpArgs false

theorem VRels.nil {M : Mp} : VRels M #[] #[] := ⟨rfl, fun j h1 h2 => absurd h1 (by simp)⟩

theorem VRels.ofLists {M : Mp} {a b : List Value} {a' b' : Array Value} (h : VRels M a.toArray a') (k : VRels M b.toArray b') : VRels M (a ++ b).toArray (a' ++ b') := by
  have := h.append k
  simpa using this

theorem kill_push_comm {M : Mp} {h : AHeap} {w : World} (r : Rel M h w) {i : Nat} {b : Blk} (hM : M i = some b) (o : AObj) : (h.kill i).push o = (h.push o).kill i := by
  have hin : i ≠ h.next := by rintro rfl; rw [r.fresh _ (Nat.le_refl _)] at hM; cases hM
  unfold AHeap.kill AHeap.push
  congr 1
  funext j
  simp only []
  by_cases ej : j = h.next
  · subst ej; simp [Ne.symm hin]
  · simp [ej]

theorem Post.kill {M M' : Mp} {h h' : AHeap} {w w' : World} (p : Post M h w M' h' w') (i : Nat) : Post M h w M' (h'.kill i) w' :=
  ⟨p.ext, p.ghost, p.next, p.base, p.size, p.os, p.tape, p.output, p.frame, p.old, fun j bb hj hMj => by
    refine p.grow j bb ?_ hMj
    simp only [AHeap.kill] at hj
    split at hj
    · cases hj
    · exact hj⟩

theorem appendW_sound {P : Program} {M : Mp} {h h' : AHeap} {w : World} {t xt ty : TypeId} {s s' x x' u : Value} (r : Rel M h w) (hs : VRel M s s') (hx : VRel M x x') (ha : appendW P h t xt s x = some (u, h')) :
    ∃ u' w' M', (Builtin.append_ #[t, xt] ty #[s', x']).run P w = .ok u' w' ∧ VRel M' u u' ∧ Rel M' h' w' ∧ Post M h w M' h' w' := by
  unfold appendW at ha
  split at ha
  · rename_i e ht
    split at ha
    · rename_i sz by_ z hsz hby hz
      split at ha
      · rename_i n l hsrc
        split at ha
        · rename_i hc
          obtain ⟨hx1, h0, hby0, hzs, hall⟩ := hc
          obtain ⟨news, hlen, hfirst, hnews, hll⟩ := srcCells_sound (P := P) r hx hsrc
          have rd : Rel M h w.drew := r.world rfl
          obtain ⟨news2, hlen2, hfirst2, hnews2, _⟩ := srcCells_sound (P := P) rd hx hsrc
          have hok : ∀ v ∈ l, v.oneCell' = true ∧ v ≠ poison := by
            rw [List.all_eq_true] at hall
            intro v hv
            have := hall v hv
            simp only [okCell, Bool.and_eq_true] at this
            exact ⟨this.1, known_ne this.2⟩
          -- nothing is appended
          have hnone : n = 0 → ∀ base sLen sCap, sLen ≤ sCap → (Builtin.append_ #[t, xt] ty #[.slice base sLen sCap, x']).run P w = .ok (.slice base (sLen + n) sCap) w := by
            intro hn base sLen sCap hle
            refine run_append_room' ht hx1 hsz hlen hfirst (by omega) ?_
            have hne : news = #[] := by
              have := hnews.1; simp only [List.size_toArray] at this
              apply Array.eq_empty_of_size_eq_zero; rw [← this, hll, hn, Nat.zero_mul]
            subst hne
            cases base <;> rfl
          -- what a grown row gives
          have hgrow : ∀ (c : List Value) (old : Array Value) (base : Option Addr) (sLen sCap : Nat), VRels M c.toArray old → c.length = sLen * sz → (Builtin.firstCells sz sLen (.slice base sLen sCap)).run P w.drew = .ok old w.drew →
              sCap < sLen + n → (sLen + n) * by_ ≤ 140737488355328 →
              ∃ u' w' M', (Builtin.append_ #[t, xt] ty #[.slice base sLen sCap, x']).run P w = .ok u' w' ∧ VRel M' (.slice (some ⟨h.next, 0, none⟩) (sLen + n) (sLen + n)) u' ∧
                Rel M' (h.push (.row (c ++ l) e sz false false)) w' ∧ Post M h w M' (h.push (.row (c ++ l) e sz false false)) w' := by
            intro c old base sLen sCap hco hcl hfo hroom hb
            have hrun := run_append_grow' (ty := ty) ht hx1 hsz hby hz hby0 hlen hfirst2 hfo hroom hb
            obtain ⟨r2, p2, v2⟩ := r.grown (VRels.ofLists hco hnews2) (z := z.cells) hzs (e := e) (need := sLen + n) (cap := grownCap w (sLen + n) sCap e)
              (by rw [List.length_append, hcl, hll, Nat.add_mul]) (grownCap_ge _ _ _ _)
            exact ⟨_, _, _, hrun, v2, r2, p2⟩
          cases hs <;> simp only [poison] at ha <;> first | (cases ha; done) | skip
          case nilSlice =>
            split at ha
            · rename_i hn
              simp only [Option.some.injEq, Prod.mk.injEq] at ha
              obtain ⟨rfl, rfl⟩ := ha
              refine ⟨_, _, _, hnone hn none 0 0 (Nat.le_refl _), ?_, r, Post.refl _ _ _⟩
              subst hn; exact .nilSlice
            · rename_i hn
              split at ha
              · rename_i hb
                simp only [Option.some.injEq, Prod.mk.injEq] at ha
                obtain ⟨rfl, rfl⟩ := ha
                have := hgrow [] #[] none 0 0 VRels.nil (by simp) (by simp [Builtin.firstCells]) (by omega) (by simpa using hb)
                simpa using this
              · cases ha
          case slice i off len cap cap' b hM hlc hcap =>
            have hcc : cap ≤ cap' := by rcases hcap with h | h; omega; exact h.2.1
            split at ha
            · rename_i hn
              simp only [Option.some.injEq, Prod.mk.injEq] at ha
              obtain ⟨rfl, rfl⟩ := ha
              refine ⟨_, _, _, hnone hn _ len cap' (by omega), ?_, r, Post.refl _ _ _⟩
              subst hn; exact .slice i off len cap cap' b hM hlc hcap
            · rename_i hn
              split at ha
              · rename_i c e' sz' ti ro ho
                split at ha
                · rename_i hcond
                  obtain ⟨rfl, hoff⟩ := hcond
                  obtain ⟨cc, lo, hi, g1, g2, g3, g4, g5, g6, g7⟩ := r.live i _ b ho hM
                  split at ha
                  · rename_i hroom
                    split at ha
                    · rename_i hro
                      obtain ⟨rfl, hfit⟩ := hro
                      simp only [Option.some.injEq, Prod.mk.injEq] at ha
                      obtain ⟨rfl, rfl⟩ := ha
                      obtain ⟨w', hw', r', p'⟩ := run_storeCells (P := P) hM l news.toList (off + len * sz') 0 c h w r ho (by simpa using hfit) (by simpa using hnews) (fun v hv => (hok v hv).1) (fun v hv => (hok v hv).2)
                      refine ⟨_, w', M, run_append_room' ht hx1 hsz hlen hfirst (by omega) ?_, ?_, r', p'⟩
                      · simp only [add_eq, Nat.add_assoc]
                        exact hw'
                      · exact .slice i off (len + n) cap cap' b hM hroom hcap
                    · cases ha
                  · rename_i hroom
                    split at ha
                    · rename_i hb
                      -- the cells that are there
                      obtain ⟨cs, hcs, hcr⟩ := rd.cells (P := P) ho hM hoff
                      have hgrow' := fun (hr : cap' < len + n) => hgrow ((c.drop off).take (len * sz')) cs (some ⟨b.blk, b.base + off, none⟩) len cap' hcr (by simp; omega) hcs hr hb
                      split at ha
                      · rename_i htight
                        simp only [Option.some.injEq, Prod.mk.injEq] at ha
                        obtain ⟨rfl, rfl⟩ := ha
                        have hcap' : cap' = cap := by
                          rcases hcap with h | ⟨hge, h⟩
                          · exact h
                          · rw [g5 htight] at hge; cases hge
                        exact hgrow' (by omega)
                      · split at ha
                        · rename_i hro
                          obtain ⟨rfl, hbase, rfl⟩ := hro
                          simp only [Option.some.injEq, Prod.mk.injEq] at ha
                          obtain ⟨rfl, rfl⟩ := ha
                          by_cases hr : cap' < len + n
                          · obtain ⟨u', w', M', h1, h2, h3, h4⟩ := hgrow' hr
                            rw [kill_push_comm r hM]
                            exact ⟨u', w', M', h1, h2, h3.kill i, h4.kill i⟩
                          · -- there was room: the row is seen anew, and written
                            have hopen : off + cap' * sz' ≤ b.size := by
                              rcases hcap with h | ⟨_, _, h⟩
                              · omega
                              · rw [g4] at h; exact h
                            have hmul : (len + n) * sz' ≤ cap' * sz' := Nat.mul_le_mul_right _ (by omega)
                            rw [Nat.add_mul] at hmul
                            have ht2 : ((c.drop off).take (len * sz')).length = len * sz' := by simp; omega
                            have hcl2 : ((c.drop off).take (len * sz') ++ List.replicate (n * sz') poison).length = len * sz' + n * sz' := by rw [List.length_append, ht2, List.length_replicate]
                            obtain ⟨r2, p2⟩ := r.review (off := off) (c2 := (c.drop off).take (len * sz') ++ List.replicate (n * sz') poison) ho hM hbase (by rw [hcl2]; omega) (fun j v hj => by
                              by_cases hjl : j < len * sz'
                              · right
                                rw [List.getElem?_append_left (by omega), List.getElem?_take, if_pos hjl, List.getElem?_drop] at hj
                                exact hj
                              · left
                                rw [List.getElem?_append_right (by omega), List.getElem?_replicate] at hj
                                split at hj
                                · exact (Option.some.inj hj).symm
                                · cases hj)
                            have hle2 : M.le (upd M h.next ⟨b.blk, b.base + off, b.size - off, b.esz, true⟩) := p2.ext
                            obtain ⟨w', hw', r', p'⟩ := run_storeCells (P := P) (upd_self M h.next ⟨b.blk, b.base + off, b.size - off, b.esz, true⟩) l news.toList (len * sz') 0 _ _ w r2 (by rw [push_kill, if_pos rfl]) (by rw [hcl2]; omega)
                              (by simpa using hnews.mono hle2) (fun v hv => (hok v hv).1) (fun v hv => (hok v hv).2)
                            have e2 : ((h.kill i).push (.row ((c.drop off).take (len * sz') ++ List.replicate (n * sz') poison) e' sz' false false)).set h.next (.row (setL ((c.drop off).take (len * sz') ++ List.replicate (n * sz') poison) (len * sz' + 0) l) e' sz' false false) =
                                (h.kill i).push (.row ((c.drop off).take (len * sz') ++ l) e' sz' false false) := by
                              have := setL_append l ((c.drop off).take (len * sz')) (n * sz') poison hll
                              rw [ht2] at this
                              rw [Nat.add_zero, this]
                              unfold AHeap.set AHeap.push AHeap.kill
                              congr 1
                              funext j
                              simp only []
                              split <;> rfl
                            rw [e2] at r' p'
                            refine ⟨_, w', _, run_append_room' ht hx1 hsz hlen hfirst (by omega) ?_, ?_, r', p2.trans p'⟩
                            · simp only [add_eq]
                              exact hw'
                            · have := VRel.slice (M := upd M h.next ⟨b.blk, b.base + off, b.size - off, b.esz, true⟩) h.next 0 (len + n) (len + n) cap' ⟨b.blk, b.base + off, b.size - off, b.esz, true⟩ (upd_self _ _ _) (Nat.le_refl _) (.inr ⟨rfl, by omega, by simp only []; rw [g4]; omega⟩)
                              simpa using this
                        · cases ha
                    · cases ha
                · cases ha
              · cases ha
          case slice00 i off a b hM =>
            split at ha
            · rename_i hn
              simp only [Option.some.injEq, Prod.mk.injEq] at ha
              obtain ⟨rfl, rfl⟩ := ha
              refine ⟨_, _, _, hnone hn _ 0 0 (by omega), ?_, r, Post.refl _ _ _⟩
              subst hn; exact .slice00 i off a b hM
            · rename_i hn
              split at ha
              · rename_i c e' sz' ti ro ho
                split at ha
                · rename_i hcond
                  obtain ⟨rfl, hoff⟩ := hcond
                  rw [if_neg (by omega)] at ha
                  have ht0 : (c.drop off).take (0 * sz') = [] := by simp
                  rw [ht0, List.nil_append] at ha
                  split at ha
                  · rename_i hb
                    have hgrow' := fun (hr : 0 < 0 + n) => hgrow [] #[] (some a) 0 0 VRels.nil (by simp) (by simp [Builtin.firstCells, loadCells, loadCellsFrom]) hr hb
                    rw [List.nil_append] at hgrow'
                    split at ha
                    · simp only [Option.some.injEq, Prod.mk.injEq] at ha
                      obtain ⟨rfl, rfl⟩ := ha
                      exact hgrow' (by omega)
                    · split at ha
                      · rename_i hro
                        obtain ⟨rfl, hbase, rfl⟩ := hro
                        simp only [Option.some.injEq, Prod.mk.injEq] at ha
                        obtain ⟨rfl, rfl⟩ := ha
                        obtain ⟨u', w', M', h1, h2, h3, h4⟩ := hgrow' (by omega)
                        rw [kill_push_comm r hM]
                        exact ⟨u', w', M', h1, h2, h3.kill i, h4.kill i⟩
                      · cases ha
                  · cases ha
                · cases ha
              · cases ha
          case slice0 i off off' cap' b hM hcap =>
            split at ha
            · rename_i hn
              simp only [Option.some.injEq, Prod.mk.injEq] at ha
              obtain ⟨rfl, rfl⟩ := ha
              refine ⟨_, _, _, hnone hn _ 0 cap' (by omega), ?_, r, Post.refl _ _ _⟩
              subst hn; exact .slice0 i off off' cap' b hM hcap
            · rename_i hn
              split at ha
              · rename_i c e' sz' ti ro ho
                split at ha
                · rename_i hcond
                  obtain ⟨rfl, hoff⟩ := hcond
                  obtain ⟨cc, lo, hi, g1, g2, g3, g4, g5, g6, g7⟩ := r.live i _ b ho hM
                  rw [if_neg (by omega)] at ha
                  have ht0 : (c.drop off).take (0 * sz') = [] := by simp
                  rw [ht0, List.nil_append] at ha
                  split at ha
                  · rename_i hb
                    have hgrow' := fun (hr : cap' < 0 + n) => hgrow [] #[] (some ⟨b.blk, b.base + off', none⟩) 0 cap' VRels.nil (by simp) (by simp [Builtin.firstCells, loadCells, loadCellsFrom]) hr hb
                    rw [List.nil_append] at hgrow'
                    split at ha
                    · rename_i htight
                      simp only [Option.some.injEq, Prod.mk.injEq] at ha
                      obtain ⟨rfl, rfl⟩ := ha
                      have hcap' : cap' = 0 := by
                        rcases hcap with h | ⟨hge, h⟩
                        · exact h
                        · rw [g5 htight] at hge; cases hge
                      exact hgrow' (by omega)
                    · split at ha
                      · rename_i hro
                        obtain ⟨rfl, hbase, rfl⟩ := hro
                        simp only [Option.some.injEq, Prod.mk.injEq] at ha
                        obtain ⟨rfl, rfl⟩ := ha
                        by_cases hr : cap' < 0 + n
                        · obtain ⟨u', w', M', h1, h2, h3, h4⟩ := hgrow' hr
                          rw [kill_push_comm r hM]
                          exact ⟨u', w', M', h1, h2, h3.kill i, h4.kill i⟩
                        · have hopen : off' + cap' * sz' ≤ b.size := by
                            rcases hcap with h | ⟨_, h⟩
                            · omega
                            · rw [g4] at h; exact h
                          have hmul : n * sz' ≤ cap' * sz' := Nat.mul_le_mul_right _ (by omega)
                          have hcl2 : (List.replicate (n * sz') poison).length = n * sz' := List.length_replicate
                          obtain ⟨r2, p2⟩ := r.review (off := off') (c2 := List.replicate (n * sz') poison) ho hM hbase (by rw [hcl2]; omega) (fun j v hj => by
                            left
                            rw [List.getElem?_replicate] at hj
                            split at hj
                            · exact (Option.some.inj hj).symm
                            · cases hj)
                          obtain ⟨w', hw', r', p'⟩ := run_storeCells (P := P) (upd_self M h.next ⟨b.blk, b.base + off', b.size - off', b.esz, true⟩) l news.toList 0 0 _ _ w r2 (by rw [push_kill, if_pos rfl]) (by rw [hcl2]; omega)
                            (by simpa using hnews.mono p2.ext) (fun v hv => (hok v hv).1) (fun v hv => (hok v hv).2)
                          have e2 : ((h.kill i).push (.row (List.replicate (n * sz') poison) e' sz' false false)).set h.next (.row (setL (List.replicate (n * sz') poison) (0 + 0) l) e' sz' false false) =
                              (h.kill i).push (.row l e' sz' false false) := by
                            have := setL_append l [] (n * sz') poison hll
                            simp only [List.nil_append, List.length_nil] at this
                            rw [Nat.add_zero, this]
                            unfold AHeap.set AHeap.push AHeap.kill
                            congr 1
                            funext j
                            simp only []
                            split <;> rfl
                          rw [e2] at r' p'
                          refine ⟨_, w', _, run_append_room' ht hx1 hsz hlen hfirst (by omega) ?_, ?_, r', p2.trans p'⟩
                          · simp only [add_eq, Nat.zero_mul, Nat.add_zero] at hw' ⊢
                            exact hw'
                          · have := VRel.slice (M := upd M h.next ⟨b.blk, b.base + off', b.size - off', b.esz, true⟩) h.next 0 (0 + n) (0 + n) cap' ⟨b.blk, b.base + off', b.size - off', b.esz, true⟩ (upd_self _ _ _) (Nat.le_refl _) (.inr ⟨rfl, by omega, by simp only []; rw [g4]; omega⟩)
                            simpa using this
                      · cases ha
                  · cases ha
                · cases ha
              · cases ha
        · cases ha
      · cases ha
    · cases ha
  · cases ha
end Ab
