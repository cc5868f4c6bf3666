import Derived.Test.YtjlcednpohgamaaL17f
open Go Ab Go.Proofs
namespace L17
set_option autoImplicit false
set_option linter.unusedSimpArgs false
set_option linter.unusedVariables false

/-- What Write gives for a frame in order is read back as that frame. -/
theorem nxt_wr {f : Fr} (h0 : 0 ≤ f.1) (h4 : f.1 ≤ 4) (hl : f.2.length ≤ 512) (r : List UInt8) : nxt ((wr f).1 ++ r) 0 = (some f, r, 0) := by
  obtain ⟨c, bs⟩ := f
  simp only at h0 h4 hl
  have e : wr (c, bs) = (UInt8.ofNat c.toNat :: UInt8.ofNat (bs.length / 256) :: UInt8.ofNat (bs.length % 256) :: bs, 0) := by unfold wr; rw [if_neg (by simp only; omega), if_neg (by simp only; omega)]
  have e1 : (UInt8.ofNat c.toNat).toNat = c.toNat := by simp [UInt8.toNat_ofNat]; omega
  have e2 : (UInt8.ofNat (bs.length / 256)).toNat = bs.length / 256 := by simp [UInt8.toNat_ofNat]; omega
  have e3 : (UInt8.ofNat (bs.length % 256)).toNat = bs.length % 256 := by simp [UInt8.toNat_ofNat]
  have h4' : ¬ (4 : UInt8) < UInt8.ofNat c.toNat := by rw [UInt8.lt_iff_toNat_lt, e1]; have : (4 : UInt8).toNat = 4 := rfl; omega
  have hn : 256 * (bs.length / 256) + bs.length % 256 = bs.length := Nat.div_add_mod _ _
  rw [e]
  simp only [List.cons_append, nxt, if_neg h4', e1, e2, e3, hn]
  rw [if_neg (by simp), if_neg (by omega), if_neg (by simp)]
  simp; omega
theorem wr_ok {f : Fr} (h : (wr f).2 = 0) : 0 ≤ f.1 ∧ f.1 ≤ 4 ∧ f.2.length ≤ 512 := by
  unfold wr at h
  split at h
  · cases h
  · split at h
    · cases h
    · omega
theorem wr_len (f : Fr) : (wr f).1.length ≤ f.2.length + 3 := by
  unfold wr; split
  · simp
  · split <;> simp
theorem parse_wr {f : Fr} (h : (wr f).2 = 0) (r : List UInt8) : parse ((wr f).1 ++ r) = (f :: (parse r).1, (parse r).2) := by
  obtain ⟨h0, h4, hl⟩ := wr_ok h
  exact parse_some (nxt_wr h0 h4 hl r)

theorem feed_wr {f : Fr} {ws : List UInt8} (pw : ∀ r : List UInt8, parse (ws ++ r) = (f :: (parse r).1, (parse r).2)) : feedR [] 0 ws = ([f], [], 0) := by
  have := pw []
  rw [parse_nil, List.append_nil] at this
  simp [feedR, this]

/-- One frame in a row of its own. -/
theorem br_one {O : Old} {h : AHeap} {R : List Chunk} {i : Nat} {c : Int} {a : Option Addr} {cap : Nat} {bs : List UInt8} (k : Own O h (cell i (.row [.int .i64 c, .slice a bs.length cap] 36 2 true false) :: R)) (hb : Bytes h (.slice a bs.length cap) bs) :
    BR pre 2 h (.slice (some ⟨i, 0, none⟩) 1 1) [((c, bs) : Fr)] := by
  have k2 := k.os_mk (n := 1) (cap := 1) (off := 0) (cs := [.int .i64 c, .slice a bs.length cap]) (Nat.le_refl _) (by simp) (by simp)
  refine ⟨[(a, cap)], rfl, k2.os_sl, fun j f p hf hp => ?_⟩
  rcases j with _ | j
  · simp at hf hp; subst hf hp; exact hb
  · simp at hf

set_option maxHeartbeats 4000000 in
theorem writes_calls {h : AHeap} {c : Int} {a : Option Addr} {cap : Nat} {bs : List UInt8} (hb : h.base = h.next) (hp : Bytes h (.slice a bs.length cap) bs) :
    ACalls Try.prog 4 #[.agg #[.int .i64 c, .slice a bs.length cap]] h fun v _ => v = .bool true := by
  refine Own.of_wf fun k0 => ?_
  refine ACalls.of_awp (args := [.agg #[.int .i64 c, .slice a bs.length cap]]) (n := 80) Try.func4 rfl rfl (by show 1 ≤ 80; omega) ?_
  have k1 := k0.push (.row [.int .i64 c, .slice a bs.length cap] 36 2 true false)
  (repeat' first
    | refine AWP.seq ?_
    | refine AWP.block ?_
    | (refine AWP.skip ?_; try dsimp only [thn, inBlk])
    | (refine AWP.exit ?_; try simp only [thn, inBlk, if_true])
    | (refine AWP.ret ?_; try dsimp only [thn, inBlk])
    | (refine AWP.condT ?_ ?_; (focus (simp [go_sem]; done)))
    | (refine AWP.condF ?_ ?_; (focus (simp [go_sem]; done)))
    | (apply AWP.rE; (focus (simp [go_sem]; exact ⟨rfl, rfl⟩)); try dsimp only [thn, inBlk])
    | fail)
  refine AWP.callE (by simp [go_sem]; exact ⟨rfl, rfl, rfl, rfl, rfl⟩) (by kernel_rfl) ?_
  refine (speaks_calls k1).mono ?_
  rintro v h1 ⟨rfl, k2⟩
  have c2 := k2.obj
  refine awpL_restE (by simp [go_sem]; exact ⟨rfl, rfl⟩) ?_; try dsimp only [thn, inBlk]
  by_cases hl : 2000 < bs.length
  · have hl' : (2000 : Int) < bs.length := by omega
    (repeat' first
      | refine AWP.seq ?_
      | refine AWP.block ?_
      | (refine AWP.skip ?_; try dsimp only [thn, inBlk])
      | (refine AWP.exit ?_; try simp only [thn, inBlk, if_true])
      | (refine AWP.ret ?_; try dsimp only [thn, inBlk])
      | (refine AWP.condT ?_ ?_; (focus (simp [go_sem, c2, hl']; done)))
      | (refine AWP.condF ?_ ?_; (focus (simp [go_sem, c2, hl']; done)))
      | (apply AWP.rE; (focus (simp [go_sem, c2, hl']; exact ⟨rfl, rfl⟩)); try dsimp only [thn, inBlk])
      | fail)
    simp [bodyQ, thn, inBlk, resA, resV, go_sem]
  have hl' : ¬ (2000 : Int) < bs.length := by omega
  obtain ⟨a3, cap3, h3, e3, k3⟩ := k2.copy (P := Try.prog) (t := 26) (xt := 26) (i := h1.next) Try.underlying26 tsz5 tby5 tz5 nI26 (fun hh kk => hp.of_old hb kk) (by omega) rfl
  have c2' := (k2.push (.row [] 5 1 true false)).b1.obj
  have c3 := k3.b1.obj
  have hh3 := hp.of_old hb k3
  (repeat' first
    | refine AWP.seq ?_
    | refine AWP.block ?_
    | (refine AWP.skip ?_; try dsimp only [thn, inBlk])
    | (refine AWP.exit ?_; try simp only [thn, inBlk, if_true])
    | (refine AWP.ret ?_; try dsimp only [thn, inBlk])
    | (refine AWP.condT ?_ ?_; (focus (simp [go_sem, c2, c2', hl', e3]; done)))
    | (refine AWP.condF ?_ ?_; (focus (simp [go_sem, c2, c2', hl', e3]; done)))
    | (apply AWP.rE; (focus (simp [go_sem, c2, c2', hl', e3]; exact ⟨rfl, rfl⟩)); try dsimp only [thn, inBlk])
    | fail)
  refine AWP.callE (by simp [go_sem, c3]; exact ⟨rfl, rfl, rfl, rfl, rfl⟩) (by kernel_rfl) ?_
  refine (write_calls (f := (c, bs)) k3 (fun hh kk => kk.ob_bytes) (by simp only; omega)).mono ?_
  rintro v h4 ⟨a4, cap4, rfl, k4⟩
  have c4 := k4.b2.obj
  refine awpL_restE (by simp [go_sem]; exact ⟨rfl, rfl⟩) ?_; try dsimp only [thn, inBlk]
  (repeat' first
    | refine AWP.seq ?_
    | refine AWP.block ?_
    | (refine AWP.skip ?_; try dsimp only [thn, inBlk])
    | (refine AWP.exit ?_; try simp only [thn, inBlk, if_true])
    | (refine AWP.ret ?_; try dsimp only [thn, inBlk])
    | (refine AWP.condT ?_ ?_; (focus (simp [go_sem]; done)))
    | (refine AWP.condF ?_ ?_; (focus (simp [go_sem]; done)))
    | (apply AWP.rE; (focus (simp [go_sem]; exact ⟨rfl, rfl⟩)); try dsimp only [thn, inBlk])
    | fail)
  refine AWP.callE (by simp [go_sem, c4]; exact ⟨rfl, rfl, rfl, rfl, rfl⟩) (by kernel_rfl) ?_
  refine (refWrite_calls (f := (c, bs)) k4 (fun hh kk => hp.of_old hb kk) (by simp only; omega)).mono ?_
  rintro v h5 ⟨a5, cap5, rfl, k5⟩
  have c5 := k5.b3.obj
  have s1 := k5.b1.ob_bytes.str (P := Try.prog) (t := 26) (e := 5) (u := 9) Try.underlying26 Try.underlying5 Try.underlying9
  have s2 := k5.ob_bytes.str (P := Try.prog) (t := 26) (e := 5) (u := 9) Try.underlying26 Try.underlying5 Try.underlying9
  have s3 := k5.b2.ob_bytes.str (P := Try.prog) (t := 26) (e := 5) (u := 9) Try.underlying26 Try.underlying5 Try.underlying9
  have s4 := (hp.of_old hb k5).str (P := Try.prog) (t := 26) (e := 5) (u := 9) Try.underlying26 Try.underlying5 Try.underlying9
  have wl := wr_len (c, bs)
  have pw := parse_wr (f := (c, bs))
  generalize hwr : wr (c, bs) = w at *
  obtain ⟨ws, we⟩ := w
  simp only at *
  refine awpL_restE (by simp [go_sem]; exact ⟨rfl, rfl⟩) ?_; try dsimp only [thn, inBlk]
  (repeat' first
    | refine AWP.seq ?_
    | refine AWP.block ?_
    | (refine AWP.skip ?_; try dsimp only [thn, inBlk])
    | (refine AWP.exit ?_; try simp only [thn, inBlk, if_true])
    | (refine AWP.ret ?_; try dsimp only [thn, inBlk])
    | (refine AWP.condT ?_ ?_; (focus (simp [go_sem, c5, s1, s2, s3, s4]; done)))
    | (refine AWP.condF ?_ ?_; (focus (simp [go_sem, c5, s1, s2, s3, s4]; done)))
    | (apply AWP.rE; (focus (simp [go_sem, c5, s1, s2, s3, s4]; exact ⟨rfl, rfl⟩)); try dsimp only [thn, inBlk])
    | fail)
  refine AWP.callE (by simp [go_sem]; exact ⟨rfl, rfl, rfl, rfl, rfl⟩) (by kernel_rfl) ?_
  refine (new_calls k5).mono ?_
  rintro v h6 ⟨i, rfl, k6⟩
  refine awpL_restE (by simp [go_sem]; exact ⟨rfl, rfl⟩) ?_; try dsimp only [thn, inBlk]
  by_cases hw0 : we = 0
  rotate_left
  · have hw1 : (we != 0) = true := by simpa using hw0
    (repeat' first
      | refine AWP.seq ?_
      | refine AWP.block ?_
      | (refine AWP.skip ?_; try dsimp only [thn, inBlk])
      | (refine AWP.exit ?_; try simp only [thn, inBlk, if_true])
      | (refine AWP.ret ?_; try dsimp only [thn, inBlk])
      | (refine AWP.condT ?_ ?_; (focus (simp [go_sem, hw1]; done)))
      | (refine AWP.condF ?_ ?_; (focus (simp [go_sem, hw1]; done)))
      | (apply AWP.rE; (focus (simp [go_sem, hw1]; exact ⟨rfl, rfl⟩)); try dsimp only [thn, inBlk])
      | fail)
    simp [bodyQ, thn, inBlk, resA, resV, go_sem]
  subst hw0
  (repeat' first
    | refine AWP.seq ?_
    | refine AWP.block ?_
    | (refine AWP.skip ?_; try dsimp only [thn, inBlk])
    | (refine AWP.exit ?_; try simp only [thn, inBlk, if_true])
    | (refine AWP.ret ?_; try dsimp only [thn, inBlk])
    | (refine AWP.condT ?_ ?_; (focus (simp [go_sem]; done)))
    | (refine AWP.condF ?_ ?_; (focus (simp [go_sem]; done)))
    | (apply AWP.rE; (focus (simp [go_sem]; exact ⟨rfl, rfl⟩)); try dsimp only [thn, inBlk])
    | fail)
  refine AWP.callE (by simp [go_sem]; exact ⟨rfl, rfl, rfl, rfl, rfl⟩) (by kernel_rfl) ?_
  refine (feed_calls (xs := ws) k6 (fun hh kk => kk.b1.ob_bytes) (fun e => absurd rfl e) (by simp only [List.length_nil]; omega)).mono ?_
  rintro v h7 ⟨a7, cap7, rfl, k7⟩
  rw [feed_wr (pw rfl)] at k7 ⊢
  have c7 := k7.b5.obj
  have k8 := k7.push (.row [.int .i64 c, .slice a bs.length cap] 36 2 true false)
  refine awpL_restE (by simp [go_sem]; exact ⟨rfl, rfl⟩) ?_; try dsimp only [thn, inBlk]
  (repeat' first
    | refine AWP.seq ?_
    | refine AWP.block ?_
    | (refine AWP.skip ?_; try dsimp only [thn, inBlk])
    | (refine AWP.exit ?_; try simp only [thn, inBlk, if_true])
    | (refine AWP.ret ?_; try dsimp only [thn, inBlk])
    | (refine AWP.condT ?_ ?_; (focus (simp [go_sem]; done)))
    | (refine AWP.condF ?_ ?_; (focus (simp [go_sem]; done)))
    | (apply AWP.rE; (focus (simp [go_sem]; exact ⟨rfl, rfl⟩)); try dsimp only [thn, inBlk])
    | fail)
  refine AWP.callE (by simp [go_sem, c7]; exact ⟨rfl, rfl, rfl, rfl, rfl⟩) (by kernel_rfl) ?_
  refine (same_calls k8.b2.brecs_read (br_one k8 (hp.of_old hb k8)) (by simp)).mono ?_
  rintro v h8 ⟨rfl, rfl⟩
  refine awpL_toCall (by simp [go_sem]; exact ⟨rfl, rfl, rfl, rfl, rfl⟩) (by kernel_rfl) ?_
  refine (rest_calls k8.b1).mono ?_
  rintro v h9 ⟨rfl, rfl⟩
  refine awpL_restE (by simp [go_sem]; exact ⟨rfl, rfl⟩) ?_; try dsimp only [thn, inBlk]
  (repeat' first
    | refine AWP.seq ?_
    | refine AWP.block ?_
    | (refine AWP.skip ?_; try dsimp only [thn, inBlk])
    | (refine AWP.exit ?_; try simp only [thn, inBlk, if_true])
    | (refine AWP.ret ?_; try dsimp only [thn, inBlk])
    | (refine AWP.condT ?_ ?_; (focus (simp [go_sem]; done)))
    | (refine AWP.condF ?_ ?_; (focus (simp [go_sem]; done)))
    | (apply AWP.rE; (focus (simp [go_sem]; exact ⟨rfl, rfl⟩)); try dsimp only [thn, inBlk])
    | fail)
  simp [bodyQ, thn, inBlk, resA, resV, go_sem]
end L17
