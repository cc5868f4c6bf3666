import Derived.Test.YtaieafdiomknoaaDoorL22v
open Go Ab Go.Proofs
namespace L22
set_option autoImplicit false
set_option linter.unusedSimpArgs false
set_option linter.unusedVariables false

theorem r_verb1 {x : UInt8} (h250 : 250 < x.toNat) (h1 : ¬ x = 255) {j : Nat} : evp rd0 j [255, x] = [] ∧ (fin rd0 [255, x]).br = 0 := by
  rw [(r_2 h250 h1 _ _).1, (r_2 h250 h1 _ j).2]
  exact ⟨rfl, rfl⟩
set_option maxHeartbeats 8000000 in
theorem read_calls {O : Old} {h : AHeap} {R : List Chunk} {v : Value} {bs : List UInt8} (k : Own O h R) (hx : ∀ h, Own O h R → Bytes h v bs) (hm : bs.length ≤ 900000) :
    ACalls Tryd.prog 14 #[v] h fun r h' => ∃ a cap, r = .tuple #[.slice a (evp rd0 0 bs).length cap, .int .i64 (fin rd0 bs).br] ∧ Own O h' (parts (.slice a (evp rd0 0 bs).length cap) (evp rd0 0 bs) :: R) := by
  obtain ⟨va, vc, rfl⟩ := (hx h k).val
  refine ACalls.of_awp (args := [.slice va bs.length vc]) (n := 121) Tryd.func14 rfl rfl (by show 1 ≤ 121; omega) ?_
  have k1 : Own O _ (parts (.slice (some ⟨h.next, 0, none⟩) 0 0) [] :: R) := (k.push (.row [] 62 5 true false)).grecs_new
  (repeat' first
    | refine AWP.seq ?_
    | refine AWP.block ?_
    | (refine AWP.skip ?_; try dsimp only [thn, inBlk])
    | (refine AWP.exit ?_; try simp only [thn, inBlk, if_true, reduceIte, Nat.reduceEqDiff])
    | (refine AWP.ret ?_; try dsimp only [thn, inBlk])
    | (refine AWP.condT ?_ ?_; (focus (simp [go_sem]; done)))
    | (refine AWP.condF ?_ ?_; (focus (simp [go_sem]; done)))
    | (apply AWP.rE; (focus (simp [go_sem]; exact ⟨rfl, rfl⟩)); try dsimp only [thn, inBlk])
    | fail)
  refine AWP.loopR [0, 4, 5] (fun m s h' => ∃ j xs a cap, j ≤ bs.length ∧ m = bs.length - j ∧ s = ⟨121, [(0, .slice va bs.length vc), (4, .slice a xs.length cap), (5, .int .i64 (j : Nat))]⟩ ∧ xs.length ≤ j ∧ (evp rd0 0 bs = xs ++ evp rd0 j (bs.drop j) ∧ fin rd0 bs = fin rd0 (bs.drop j)) ∧ Own O h' (parts (.slice a xs.length cap) xs :: R)) ?_ ?_
  · exact ⟨_, 0, [], _, 0, by omega, rfl, rfl, by simp, ⟨rfl, rfl⟩, k1⟩
  rintro m s hB ⟨j, xs, a, cap, hj, rfl, rfl, hl, hI, kB⟩
  by_cases hjm : j < bs.length
  rotate_left
  · have hjm' : ¬ (j : Int) < bs.length := by omega
    have hdr : bs.drop j = [] := List.drop_eq_nil_iff.2 (by omega)
    rw [hdr] at hI
    have q1 : evp rd0 0 bs = xs := by rw [hI.1]; exact List.append_nil _
    have q2 : (fin rd0 bs).br = 0 := by rw [hI.2]; rfl
    (repeat' first
      | refine AWP.seq ?_
      | refine AWP.block ?_
      | (refine AWP.skip ?_; try dsimp only [thn, inBlk])
      | (refine AWP.exit ?_; try simp only [thn, inBlk, if_true, reduceIte, Nat.reduceEqDiff])
      | (refine AWP.ret ?_; try dsimp only [thn, inBlk])
      | (refine AWP.condT ?_ ?_; (focus (simp [go_sem, hjm']; done)))
      | (refine AWP.condF ?_ ?_; (focus (simp [go_sem, hjm']; done)))
      | (apply AWP.rE; (focus (simp [go_sem, hjm']; exact ⟨rfl, rfl⟩)); try dsimp only [thn, inBlk])
      | fail)
    simp [bodyQ, thn, inBlk, resA, resV, go_sem, q1, q2]
    exact ⟨a, cap, ⟨rfl, rfl⟩, kB⟩
  have hjm' : (j : Int) < bs.length := by omega
  obtain ⟨i0, o0, r0, e0, z0, ti0, ro0, p0, q0, g0⟩ := (hx hB kB.tail).at (P := Tryd.prog) (t := 22) Tryd.underlying22 tsz5 (j := j) hjm (kd := .i64)
  have hdr : bs.drop j = bs[j] :: bs.drop (j + 1) := List.drop_eq_getElem_cons hjm
  obtain ⟨c, hcc⟩ : ∃ c, c = bs[j] := ⟨_, rfl⟩
  simp only [← hcc] at g0 hdr
  rw [hdr] at hI
  obtain ⟨j1, hj1⟩ : ∃ j1, j1 = j + 1 := ⟨_, rfl⟩
  obtain ⟨j2, hj2⟩ : ∃ j2, j2 = j + 2 := ⟨_, rfl⟩
  obtain ⟨j3, hj3⟩ : ∃ j3, j3 = j + 3 := ⟨_, rfl⟩
  have w1 : IntKind.i64.wrap ((j : Int) + 1) = (j1 : Int) := by rw [wI64 (by omega) (by omega)]; omega
  have w2 : IntKind.i64.wrap ((j : Int) + 2) = (j2 : Int) := by rw [wI64 (by omega) (by omega)]; omega
  have w3 : IntKind.i64.wrap ((j : Int) + 3) = (j3 : Int) := by rw [wI64 (by omega) (by omega)]; omega
  have w4 : IntKind.i64.wrap ((j3 : Int) - 1) = (j2 : Int) := by rw [wI64 (by omega) (by omega)]; omega
  rw [← hj1] at hdr hI
  by_cases hc : c = 255
  rotate_left
  · have hc' : ((c.toNat : Int) != 255) = true := by have := neB (d := 255) hc; simp at this ⊢; omega
    have k2 : Own O _ (ob 5 (.slice (some ⟨hB.next, 0, none⟩) 1 1) [c] :: _) := kB.fresh (e := 5) (bs := [c])
    obtain ⟨a2, cap2, h3, e3, k3⟩ := parts_app (bs := [c]) (ba := some ⟨hB.next, 0, none⟩) (bc := 1) (k := 1) (v := 0) (o := 0) (m := j1) k2.b1 (by omega)
    simp only [List.length_singleton, push_next, List.map_cons, List.map_nil, B] at e3
    (repeat' first
      | refine AWP.seq ?_
      | refine AWP.block ?_
      | (refine AWP.skip ?_; try dsimp only [thn, inBlk])
      | (refine AWP.exit ?_; try simp only [thn, inBlk, if_true, reduceIte, Nat.reduceEqDiff])
      | (refine AWP.ret ?_; try dsimp only [thn, inBlk])
      | (refine AWP.condT ?_ ?_; (focus (simp [go_sem, hjm', p0, q0, g0, hc', w1, e3]; done)))
      | (refine AWP.condF ?_ ?_; (focus (simp [go_sem, hjm', p0, q0, g0, hc', w1, e3]; done)))
      | (apply AWP.rE; (focus (simp [go_sem, hjm', p0, q0, g0, hc', w1, e3]; exact ⟨rfl, rfl⟩)); try dsimp only [thn, inBlk])
      | fail)
    exact ⟨bs.length - j1, by omega, j1, _, a2, cap2, by omega, rfl, by simp [go_sem], by simp; omega, ⟨by rw [hI.1, hj1, (r_data hc).1]; simp, by rw [hI.2, (r_data (j := j) hc).2]⟩, k3⟩
  have hc' : ((c.toNat : Int) != 255) = false := by rw [hc]; rfl
  rw [hc] at hI
  by_cases hl1 : j1 < bs.length
  rotate_left
  · have hl1' : (bs.length : Int) ≤ j1 := by omega
    have hdr1 : bs.drop j1 = [] := List.drop_eq_nil_iff.2 (by omega)
    rw [hdr1] at hI
    have qq1 : evp rd0 0 bs = xs := by rw [hI.1, (r_end1 (j := j)).1, List.append_nil]
    have qq2 : (fin rd0 bs).br = 0 := by rw [hI.2, (r_end1 (j := j)).2]
    (repeat' first
      | refine AWP.seq ?_
      | refine AWP.block ?_
      | (refine AWP.skip ?_; try dsimp only [thn, inBlk])
      | (refine AWP.exit ?_; try simp only [thn, inBlk, if_true, reduceIte, Nat.reduceEqDiff])
      | (refine AWP.ret ?_; try dsimp only [thn, inBlk])
      | (refine AWP.condT ?_ ?_; (focus (simp [go_sem, hjm', p0, q0, g0, hc', w1, w2, w3, hl1']; done)))
      | (refine AWP.condF ?_ ?_; (focus (simp [go_sem, hjm', p0, q0, g0, hc', w1, w2, w3, hl1']; done)))
      | (apply AWP.rE; (focus (simp [go_sem, hjm', p0, q0, g0, hc', w1, w2, w3, hl1']; exact ⟨rfl, rfl⟩)); try dsimp only [thn, inBlk])
      | fail)
    simp [bodyQ, thn, inBlk, resA, resV, go_sem, qq1, qq2]
    exact ⟨a, cap, ⟨rfl, rfl⟩, kB⟩
  have hl1' : ¬ (bs.length : Int) ≤ j1 := by omega
  obtain ⟨i1, o1, r1, e1, z1, ti1, ro1, p1, q1, g1⟩ := (hx hB kB.tail).at (P := Tryd.prog) (t := 22) Tryd.underlying22 tsz5 (j := j1) hl1 (kd := .i64)
  have hdr1 : bs.drop j1 = bs[j1] :: bs.drop (j1 + 1) := List.drop_eq_getElem_cons hl1
  obtain ⟨x, hxx⟩ : ∃ x, x = bs[j1] := ⟨_, rfl⟩
  simp only [← hxx] at g1 hdr1
  rw [hdr1, show j1 + 1 = j2 by omega] at hI
  by_cases hx240 : x.toNat ≤ 240
  · have hx240' : (x.toNat : Int) ≤ 240 := by omega
    have qq1 : evp rd0 0 bs = xs := by rw [hI.1, (r_form (j := j) (l := bs.drop j2) hx240).1, List.append_nil]
    have qq2 : (fin rd0 bs).br = 21 := by rw [hI.2, (r_form (j := j) (l := bs.drop j2) hx240).2]
    (repeat' first
      | refine AWP.seq ?_
      | refine AWP.block ?_
      | (refine AWP.skip ?_; try dsimp only [thn, inBlk])
      | (refine AWP.exit ?_; try simp only [thn, inBlk, if_true, reduceIte, Nat.reduceEqDiff])
      | (refine AWP.ret ?_; try dsimp only [thn, inBlk])
      | (refine AWP.condT ?_ ?_; (focus (simp [go_sem, hjm', p0, q0, g0, hc', w1, w2, w3, hl1', p1, q1, g1, hx240']; done)))
      | (refine AWP.condF ?_ ?_; (focus (simp [go_sem, hjm', p0, q0, g0, hc', w1, w2, w3, hl1', p1, q1, g1, hx240']; done)))
      | (apply AWP.rE; (focus (simp [go_sem, hjm', p0, q0, g0, hc', w1, w2, w3, hl1', p1, q1, g1, hx240']; exact ⟨rfl, rfl⟩)); try dsimp only [thn, inBlk])
      | fail)
    simp [bodyQ, thn, inBlk, resA, resV, go_sem, qq1, qq2]
    exact ⟨a, cap, ⟨rfl, rfl⟩, kB⟩
  have hx240' : ¬ (x.toNat : Int) ≤ 240 := by omega
  by_cases h255 : x = 255
  · have h255' : ((x.toNat : Int) == 255) = true := by rw [h255]; rfl
    rw [h255] at hI
    have k2 : Own O _ (ob 5 (.slice (some ⟨hB.next, 0, none⟩) 1 1) [255] :: _) := kB.fresh (e := 5) (bs := [255])
    obtain ⟨a2, cap2, h3, e3, k3⟩ := parts_app (bs := [255]) (ba := some ⟨hB.next, 0, none⟩) (bc := 1) (k := 1) (v := 0) (o := 0) (m := j2) k2.b1 (by omega)
    simp only [List.length_singleton, push_next, List.map_cons, List.map_nil, B] at e3
    have e3 : appendW Tryd.prog ((hB.push (.row [.int .u8 255] 5 1 true false)).push (.row [.int .i64 1, .int .i64 0, .int .i64 0, .slice (some ⟨hB.next, 0, none⟩) 1 1, .int .i64 j2] 62 5 true false)) 39 39 (.slice a xs.length cap) (.slice (some ⟨hB.next + 1, 0, none⟩) 1 1) = some (.slice a2 (xs.length + 1) cap2, h3) := e3
    have hj2 : j2 ≤ bs.length := by omega
    (repeat' first
      | refine AWP.seq ?_
      | refine AWP.block ?_
      | (refine AWP.skip ?_; try dsimp only [thn, inBlk])
      | (refine AWP.exit ?_; try simp only [thn, inBlk, if_true, reduceIte, Nat.reduceEqDiff])
      | (refine AWP.ret ?_; try dsimp only [thn, inBlk])
      | (refine AWP.condT ?_ ?_; (focus (simp [go_sem, hjm', p0, q0, g0, hc', w1, w2, hl1', p1, q1, g1, hx240', h255', e3]; done)))
      | (refine AWP.condF ?_ ?_; (focus (simp [go_sem, hjm', p0, q0, g0, hc', w1, w2, hl1', p1, q1, g1, hx240', h255', e3]; done)))
      | (apply AWP.rE; (focus (simp [go_sem, hjm', p0, q0, g0, hc', w1, w2, hl1', p1, q1, g1, hx240', h255', e3]; exact ⟨rfl, rfl⟩)); try dsimp only [thn, inBlk])
      | fail)
    exact ⟨bs.length - j2, by omega, j2, _, a2, cap2, hj2, rfl, by simp [go_sem], by simp; omega, ⟨by rw [hI.1, r_255.1, show j + 2 = j2 by omega]; simp, by rw [hI.2, (r_255 (j := j)).2]⟩, k3⟩
  have h255' : ((x.toNat : Int) == 255) = false := neI (d := 255) h255
  by_cases h250 : x.toNat < 250
  · have h250' : (x.toNat : Int) < 250 := by omega
    have hj2 : j2 ≤ bs.length := by omega
    (repeat' first
      | refine AWP.seq ?_
      | refine AWP.block ?_
      | (refine AWP.skip ?_; try dsimp only [thn, inBlk])
      | (refine AWP.exit ?_; try simp only [thn, inBlk, if_true, reduceIte, Nat.reduceEqDiff])
      | (refine AWP.ret ?_; try dsimp only [thn, inBlk])
      | (refine AWP.condT ?_ ?_; (focus (simp [go_sem, hjm', p0, q0, g0, hc', w1, w2, hl1', p1, q1, g1, hx240', h255', h250']; done)))
      | (refine AWP.condF ?_ ?_; (focus (simp [go_sem, hjm', p0, q0, g0, hc', w1, w2, hl1', p1, q1, g1, hx240', h255', h250']; done)))
      | (apply AWP.rE; (focus (simp [go_sem, hjm', p0, q0, g0, hc', w1, w2, hl1', p1, q1, g1, hx240', h255', h250']; exact ⟨rfl, rfl⟩)); try dsimp only [thn, inBlk])
      | fail)
    exact ⟨bs.length - j2, by omega, j2, _, a, cap, hj2, rfl, by simp [go_sem], by omega, ⟨by rw [hI.1, (r_skip (by omega) h250).1, show j + 2 = j2 by omega], by rw [hI.2, (r_skip (j := j) (by omega) h250).2]⟩, kB⟩
  have h250' : ¬ (x.toNat : Int) < 250 := by omega
  have hx256 := x.toNat_lt
  have wx : IntKind.i64.wrap (x.toNat : Int) = (x.toNat : Int) := by rw [wI64 (by omega) (by omega)]
  by_cases h251 : 250 < x.toNat
  · have h251' : (250 : Int) < x.toNat := by omega
    by_cases hl2 : j2 < bs.length
    rotate_left
    · have hl2' : (bs.length : Int) ≤ j2 := by omega
      have hdr2 : bs.drop j2 = [] := List.drop_eq_nil_iff.2 (by omega)
      rw [hdr2] at hI
      have qq1 : evp rd0 0 bs = xs := by rw [hI.1, (r_verb1 (j := j) h251 h255).1, List.append_nil]
      have qq2 : (fin rd0 bs).br = 0 := by rw [hI.2, (r_verb1 (j := j) h251 h255).2]
      (repeat' first
        | refine AWP.seq ?_
        | refine AWP.block ?_
        | (refine AWP.skip ?_; try dsimp only [thn, inBlk])
        | (refine AWP.exit ?_; try simp only [thn, inBlk, if_true, reduceIte, Nat.reduceEqDiff])
        | (refine AWP.ret ?_; try dsimp only [thn, inBlk])
        | (refine AWP.condT ?_ ?_; (focus (simp [go_sem, hjm', p0, q0, g0, hc', w1, w2, w3, hl1', p1, q1, g1, hx240', h255', h250', h251', hl2']; done)))
        | (refine AWP.condF ?_ ?_; (focus (simp [go_sem, hjm', p0, q0, g0, hc', w1, w2, w3, hl1', p1, q1, g1, hx240', h255', h250', h251', hl2']; done)))
        | (apply AWP.rE; (focus (simp [go_sem, hjm', p0, q0, g0, hc', w1, w2, w3, hl1', p1, q1, g1, hx240', h255', h250', h251', hl2']; exact ⟨rfl, rfl⟩)); try dsimp only [thn, inBlk])
        | fail)
      simp [bodyQ, thn, inBlk, resA, resV, go_sem, qq1, qq2]
      exact ⟨a, cap, ⟨rfl, rfl⟩, kB⟩
    have hl2' : ¬ (bs.length : Int) ≤ j2 := by omega
    obtain ⟨i2, o2, r2, e2, z2, ti2, ro2, p2, q2, g2⟩ := (hx hB kB.tail).at (P := Tryd.prog) (t := 22) Tryd.underlying22 tsz5 (j := j2) hl2 (kd := .i64)
    have hdr2 : bs.drop j2 = bs[j2] :: bs.drop (j2 + 1) := List.drop_eq_getElem_cons hl2
    obtain ⟨y, hyy⟩ : ∃ y, y = bs[j2] := ⟨_, rfl⟩
    simp only [← hyy] at g2 hdr2
    rw [hdr2, show j2 + 1 = j3 by omega] at hI
    have hy256 := y.toNat_lt
    have wy : IntKind.i64.wrap (y.toNat : Int) = (y.toNat : Int) := by rw [wI64 (by omega) (by omega)]
    obtain ⟨a2, cap2, h3, e3, k3⟩ := parts_app (bs := []) (ba := none) (bc := 0) (k := 2) (v := x.toNat) (o := y.toNat) (m := j3) (kB.nil 5 1).b1 (by omega)
    simp only [List.length_nil] at e3
    (repeat' first
      | refine AWP.seq ?_
      | refine AWP.block ?_
      | (refine AWP.skip ?_; try dsimp only [thn, inBlk])
      | (refine AWP.exit ?_; try simp only [thn, inBlk, if_true, reduceIte, Nat.reduceEqDiff])
      | (refine AWP.ret ?_; try dsimp only [thn, inBlk])
      | (refine AWP.condT ?_ ?_; (focus (simp [go_sem, hjm', p0, q0, g0, hc', w1, w2, w3, w4, hl1', p1, q1, g1, hx240', h255', h250', h251', hl2', p2, q2, g2, wx, wy, e3]; done)))
      | (refine AWP.condF ?_ ?_; (focus (simp [go_sem, hjm', p0, q0, g0, hc', w1, w2, w3, w4, hl1', p1, q1, g1, hx240', h255', h250', h251', hl2', p2, q2, g2, wx, wy, e3]; done)))
      | (apply AWP.rE; (focus (simp [go_sem, hjm', p0, q0, g0, hc', w1, w2, w3, w4, hl1', p1, q1, g1, hx240', h255', h250', h251', hl2', p2, q2, g2, wx, wy, e3]; exact ⟨rfl, rfl⟩)); try dsimp only [thn, inBlk])
      | fail)
    exact ⟨bs.length - j3, by omega, j3, _, a2, cap2, by omega, rfl, by simp [go_sem], by simp; omega, ⟨by rw [hI.1, (r_verb h251 h255).1, show j + 3 = j3 by omega]; simp, by rw [hI.2, (r_verb (j := j) h251 h255).2]⟩, k3⟩
  have hx250 : x = 250 := UInt8.toNat_inj.1 (by show x.toNat = 250; omega)
  have h251' : ¬ (250 : Int) < x.toNat := by omega
  rw [hx250] at hI
  by_cases hl2 : j2 < bs.length
  rotate_left
  · have hl2' : (bs.length : Int) ≤ j2 := by omega
    have hdr2 : bs.drop j2 = [] := List.drop_eq_nil_iff.2 (by omega)
    rw [hdr2] at hI
    have qq1 : evp rd0 0 bs = xs := by rw [hI.1, (r_sub1 (j := j)).1, List.append_nil]
    have qq2 : (fin rd0 bs).br = 0 := by rw [hI.2, (r_sub1 (j := j)).2]
    (repeat' first
      | refine AWP.seq ?_
      | refine AWP.block ?_
      | (refine AWP.skip ?_; try dsimp only [thn, inBlk])
      | (refine AWP.exit ?_; try simp only [thn, inBlk, if_true, reduceIte, Nat.reduceEqDiff])
      | (refine AWP.ret ?_; try dsimp only [thn, inBlk])
      | (refine AWP.condT ?_ ?_; (focus (simp [go_sem, hjm', p0, q0, g0, hc', w1, w2, w3, hl1', p1, q1, g1, hx240', h255', h250', h251', hl2']; done)))
      | (refine AWP.condF ?_ ?_; (focus (simp [go_sem, hjm', p0, q0, g0, hc', w1, w2, w3, hl1', p1, q1, g1, hx240', h255', h250', h251', hl2']; done)))
      | (apply AWP.rE; (focus (simp [go_sem, hjm', p0, q0, g0, hc', w1, w2, w3, hl1', p1, q1, g1, hx240', h255', h250', h251', hl2']; exact ⟨rfl, rfl⟩)); try dsimp only [thn, inBlk])
      | fail)
    simp [bodyQ, thn, inBlk, resA, resV, go_sem, qq1, qq2]
    exact ⟨a, cap, ⟨rfl, rfl⟩, kB⟩
  have hl2' : ¬ (bs.length : Int) ≤ j2 := by omega
  obtain ⟨i2, o2, r2, e2, z2, ti2, ro2, p2, q2, g2⟩ := (hx hB kB.tail).at (P := Tryd.prog) (t := 22) Tryd.underlying22 tsz5 (j := j2) hl2 (kd := .i64)
  have hdr2 : bs.drop j2 = bs[j2] :: bs.drop (j2 + 1) := List.drop_eq_getElem_cons hl2
  obtain ⟨y, hyy⟩ : ∃ y, y = bs[j2] := ⟨_, rfl⟩
  simp only [← hyy] at g2 hdr2
  rw [hdr2, show j2 + 1 = j3 by omega] at hI
  have hy256 := y.toNat_lt
  have wy : IntKind.i64.wrap (y.toNat : Int) = (y.toNat : Int) := by rw [wI64 (by omega) (by omega)]
  (repeat' first
    | refine AWP.seq ?_
    | refine AWP.block ?_
    | (refine AWP.skip ?_; try dsimp only [thn, inBlk])
    | (refine AWP.exit ?_; try simp only [thn, inBlk, if_true, reduceIte, Nat.reduceEqDiff])
    | (refine AWP.ret ?_; try dsimp only [thn, inBlk])
    | (refine AWP.condT ?_ ?_; (focus (simp [go_sem, hjm', p0, q0, g0, hc', w1, w2, w3, hl1', p1, q1, g1, hx240', h255', h250', h251', hl2']; done)))
    | (refine AWP.condF ?_ ?_; (focus (simp [go_sem, hjm', p0, q0, g0, hc', w1, w2, w3, hl1', p1, q1, g1, hx240', h255', h250', h251', hl2']; done)))
    | (apply AWP.rE; (focus (simp [go_sem, hjm', p0, q0, g0, hc', w1, w2, w3, hl1', p1, q1, g1, hx240', h255', h250', h251', hl2']; exact ⟨rfl, rfl⟩)); try dsimp only [thn, inBlk])
    | fail)
  refine AWP.callE (by simp [go_sem, w3]; exact ⟨rfl, rfl, rfl, rfl, rfl⟩) (by kernel_rfl) ?_
  refine (sub_calls (at_ := j3) kB (fun hh kk => hx hh kk.tail) (by omega) (by omega)).mono ?_
  rintro r h4 ⟨d, nx, e, ad, cd, rfl, hS, hd, k4⟩
  have rs := r_sub (y := y) (l := bs.drop j3) (j := j)
  rw [rs.1, rs.2, show j + 3 = j3 by omega] at hI
  refine awpL_restE (by simp [go_sem]; exact ⟨rfl, rfl⟩) ?_; try dsimp only [thn, inBlk]
  rcases hS with ⟨rfl, hS⟩ | ⟨m, rfl, rfl, hm1, hm2, hS⟩
  · have qq1 : evp rd0 0 bs = xs := by rw [hI.1, (hS _).1, List.append_nil]
    have qq2 : (fin rd0 bs).br = e := by rw [hI.2, (hS _).2]
    have k5 := (k4.push (trow 3 0 0 (.slice ad d.length cd))).tail.tail
    by_cases he : e = 0
    · subst he
      (repeat' first
        | refine AWP.seq ?_
        | refine AWP.block ?_
        | (refine AWP.skip ?_; try dsimp only [thn, inBlk])
        | (refine AWP.exit ?_; try simp only [thn, inBlk, if_true, reduceIte, Nat.reduceEqDiff])
        | (refine AWP.ret ?_; try dsimp only [thn, inBlk])
        | (refine AWP.condT ?_ ?_; (focus (simp [go_sem]; done)))
        | (refine AWP.condF ?_ ?_; (focus (simp [go_sem]; done)))
        | (apply AWP.rE; (focus (simp [go_sem]; exact ⟨rfl, rfl⟩)); try dsimp only [thn, inBlk])
        | fail)
      simp [bodyQ, thn, inBlk, resA, resV, go_sem, qq1, qq2]
      exact ⟨a, cap, ⟨rfl, rfl⟩, k5⟩
    · have he' : (e != 0) = true := by simpa using he
      (repeat' first
        | refine AWP.seq ?_
        | refine AWP.block ?_
        | (refine AWP.skip ?_; try dsimp only [thn, inBlk])
        | (refine AWP.exit ?_; try simp only [thn, inBlk, if_true, reduceIte, Nat.reduceEqDiff])
        | (refine AWP.ret ?_; try dsimp only [thn, inBlk])
        | (refine AWP.condT ?_ ?_; (focus (simp [go_sem, he']; done)))
        | (refine AWP.condF ?_ ?_; (focus (simp [go_sem, he']; done)))
        | (apply AWP.rE; (focus (simp [go_sem, he']; exact ⟨rfl, rfl⟩)); try dsimp only [thn, inBlk])
        | fail)
      simp [bodyQ, thn, inBlk, resA, resV, go_sem, qq1, qq2]
      exact ⟨a, cap, ⟨rfl, rfl⟩, k5⟩
  have k5 := k4.push (trow 3 0 0 (.slice ad d.length cd))
  have k6 := k4.push (trow 3 0 y.toNat (.slice ad d.length cd))
  have c5 := k5.obj
  have c6 := k6.obj
  obtain ⟨a2, cap2, h3, e3, k3⟩ := parts_app (bs := d) (ba := ad) (bc := cd) (k := 3) (v := 0) (o := y.toNat) (m := m) k6.b1.b2 (by omega)
  rw [push_next] at e3
  have hm0 : ¬ (m : Int) < 0 := by omega
  have hj2e : IntKind.i64.wrap ((j : Int) + 2) = (j2 : Int) := w2
  obtain ⟨i8, o8, r8, e8, z8, ti8, ro8, p8, q8, g8⟩ := (hx _ k5.tail.tail.tail).at (P := Tryd.prog) (t := 22) Tryd.underlying22 tsz5 (j := j2) hl2 (kd := .i64)
  simp only [← hyy] at g8
  (repeat' first
    | refine AWP.seq ?_
    | refine AWP.block ?_
    | (refine AWP.skip ?_; try dsimp only [thn, inBlk])
    | (refine AWP.exit ?_; try simp only [thn, inBlk, if_true, reduceIte, Nat.reduceEqDiff])
    | (refine AWP.ret ?_; try dsimp only [thn, inBlk])
    | (refine AWP.condT ?_ ?_; (focus (simp [go_sem, hm0, w2, p8, q8, g8, wy, c5, c6, e3]; done)))
    | (refine AWP.condF ?_ ?_; (focus (simp [go_sem, hm0, w2, p8, q8, g8, wy, c5, c6, e3]; done)))
    | (apply AWP.rE; (focus (simp [go_sem, hm0, w2, p8, q8, g8, wy, c5, c6, e3]; exact ⟨rfl, rfl⟩)); try dsimp only [thn, inBlk])
    | fail)
  exact ⟨bs.length - m, by omega, m, _, a2, cap2, hm2, rfl, by simp [go_sem], by simp; omega, ⟨by rw [hI.1, (hS _).1]; simp, by rw [hI.2, (hS _).2]⟩, k3.d1⟩
end L22
