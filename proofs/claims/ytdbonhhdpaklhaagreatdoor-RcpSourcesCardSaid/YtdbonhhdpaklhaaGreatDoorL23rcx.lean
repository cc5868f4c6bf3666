import Derived.Test.YtdbonhhdpaklhaaGreatDoorL23zqx
section
open Go Ab Go.Proofs
namespace L23
set_option autoImplicit false
set_option linter.unusedSimpArgs false
set_option linter.unusedVariables false
attribute [local go_sem high] fold_sm fold_dg
/-- An array of 24 bytes, the first ones told. -/
abbrev arow (l : List Value) : AObj := .row l 164 24 true false
theorem tz164 : tzero Tryz.prog 164 = some (.agg #[.int .u8 0, .int .u8 0, .int .u8 0, .int .u8 0, .int .u8 0, .int .u8 0, .int .u8 0, .int .u8 0, .int .u8 0, .int .u8 0, .int .u8 0, .int .u8 0, .int .u8 0, .int .u8 0, .int .u8 0, .int .u8 0, .int .u8 0, .int .u8 0, .int .u8 0, .int .u8 0, .int .u8 0, .int .u8 0, .int .u8 0, .int .u8 0]) := by kernel_rfl
attribute [local go_sem] tz164
theorem dg_len (n : Nat) : (dg n).length ≤ 4 ∧ 1 ≤ (dg n).length := by
  unfold dg
  by_cases h1 : n < 10
  · rw [if_pos h1]; simp
  · rw [if_neg h1]
    by_cases h2 : n < 100
    · rw [if_pos h2]; simp
    · rw [if_neg h2]
      by_cases h3 : n < 1000
      · rw [if_pos h3]; simp
      · rw [if_neg h3]; simp
section
variable {O : Old} {h : AHeap} {R : List Chunk}
theorem dg3 {n : Nat} (h0 : 100 ≤ n) (hn : n < 1000) : dg n = [dgt (n / 100), dgt (n / 10 % 10), dgt (n % 10)] := by
  unfold dg; rw [if_neg (by omega), if_neg (by omega), if_pos hn]
theorem wdg {a : Nat} (h : a < 10) : IntKind.u8.wrap (IntKind.u32.wrap (48 + (a : Int))) = ((dgt a).toNat : Int) := by
  have e : IntKind.u32.wrap (48 + (a : Int)) = 48 + a := by rw [IntKind.wrap_u32]; omega
  have e2 : (dgt a).toNat = 48 + a := by
    show (UInt8.ofNat (48 + a)).toNat = 48 + a
    rw [UInt8.toNat_ofNat']; omega
  rw [e, e2, wU8 (by omega) (by omega)]; omega
theorem fb3_calls {i n : Nat} (k : Own O h (cell i (arow [.int .u8 0, .int .u8 0, .int .u8 0, .int .u8 0, .int .u8 0, .int .u8 0, .int .u8 0, .int .u8 0, .int .u8 0, .int .u8 0, .int .u8 0, .int .u8 0, .int .u8 0, .int .u8 0, .int .u8 0, .int .u8 0, .int .u8 0, .int .u8 0, .int .u8 0, .int .u8 0, .int .u8 0, .int .u8 0, .int .u8 0, .int .u8 0]) :: R)) (h0 : 100 ≤ n) (hn : n < 1000) : ACalls Tryz.prog 131 #[.slice (some ⟨i, 0, none⟩) 3 24, .int .u64 n] h fun r h' => r = .tuple #[] ∧ ∃ x y z, dg n = [x, y, z] ∧ Own O h' (cell i (arow [.int .u8 x.toNat, .int .u8 y.toNat, .int .u8 z.toNat, .int .u8 0, .int .u8 0, .int .u8 0, .int .u8 0, .int .u8 0, .int .u8 0, .int .u8 0, .int .u8 0, .int .u8 0, .int .u8 0, .int .u8 0, .int .u8 0, .int .u8 0, .int .u8 0, .int .u8 0, .int .u8 0, .int .u8 0, .int .u8 0, .int .u8 0, .int .u8 0, .int .u8 0]) :: R) := by
  refine ACalls.of_awp (args := [.slice (some ⟨i, 0, none⟩) 3 24, .int .u64 n]) (n := 167) Tryz.func131 rfl rfl (by show 2 ≤ 167; omega) ?_
  have ci := k.obj
  have w0 : IntKind.u32.wrap (n : Int) = n := by rw [IntKind.wrap_u32]; omega
  have v1 : IntKind.i64.wrap 1 = 1 := by decide
  have v2 : IntKind.i64.wrap 2 = 2 := by decide
  obtain ⟨b, hb⟩ : ∃ b, b = n % 100 := ⟨_, rfl⟩
  obtain ⟨a, ha⟩ : ∃ a, a = n / 100 := ⟨_, rfl⟩
  obtain ⟨c, hc⟩ : ∃ c, c = b * 2 := ⟨_, rfl⟩
  obtain ⟨d, hd⟩ : ∃ d, d = c + 1 := ⟨_, rfl⟩
  have hb0 : b < 100 := by omega
  have t1 : (n : Int).tmod 100 = (b : Int) := by rw [Int.tmod_eq_emod_of_nonneg (by omega)]; omega
  have t2 : IntKind.u32.wrap ((b : Int) * 2) = (c : Int) := by rw [IntKind.wrap_u32]; omega
  have t3 : IntKind.u32.wrap ((c : Int) + 1) = (d : Int) := by rw [IntKind.wrap_u32]; omega
  have t4 : IntKind.u32.wrap ((n : Int) / 100) = (a : Int) := by rw [IntKind.wrap_u32]; omega
  have hlo := sm_lo ⟨b, hb0⟩
  have hhi := sm_hi ⟨b, hb0⟩
  simp only [] at hlo hhi
  rw [← hc] at hlo hhi
  rw [← hd] at hhi
  have x0 := smB_at (kd := .u32) hlo
  have x1 := smB_at (kd := .u32) hhi
  have t5 := wdg (a := a) (by omega)
  have hdg := dg3 h0 hn
  rw [← ha, show n / 10 % 10 = b / 10 by omega, show n % 10 = b % 10 by omega] at hdg
  generalize dgt a = x at *
  generalize dgt (b / 10) = y at *
  generalize dgt (b % 10) = z at *
  have p0 : indexAddrP Tryz.prog 32 (.slice (some ⟨i, 0, none⟩) 3 24) (.int .i64 0) = some (.pointer (some ⟨i, 0, none⟩)) := by simp [indexAddrP, go_sem]
  have p1 : indexAddrP Tryz.prog 32 (.slice (some ⟨i, 0, none⟩) 3 24) (.int .i64 1) = some (.pointer (some ⟨i, 1, none⟩)) := by simp [indexAddrP, go_sem]
  have p2 : indexAddrP Tryz.prog 32 (.slice (some ⟨i, 0, none⟩) 3 24) (.int .i64 2) = some (.pointer (some ⟨i, 2, none⟩)) := by simp [indexAddrP, go_sem]
  (repeat' first
    | refine AWP.seq ?_
    | refine AWP.block ?_
    | (refine AWP.skip ?_; try dsimp only [thn, inBlk])
    | (refine AWP.exit ?_; try simp only [thn, inBlk, if_true, reduceIte, Nat.reduceEqDiff])
    | (refine AWP.ret ?_; try dsimp only [thn, inBlk])
    | (refine AWP.condT ?_ ?_; (focus (simp [go_sem]; done)))
    | (refine AWP.condF ?_ ?_; (focus (simp [go_sem]; done)))
    | (apply AWP.rE; (focus (simp [go_sem]; exact ⟨rfl, rfl⟩)); try dsimp only [thn, inBlk])
    | (apply AWP.dE hmix [.n 0 [0], .n 1 [4], .n 2 [43], .n 3 [0], .n 4 [4], .n 5 [46], .n 6 [9], .n 7 [48], .n 8 [49], .n 9 [9], .n 10 [51], .n 11 [42, 44], .w 12 [53, 50] [], .n 13 [45, 47], .w 14 [54, 52] []]; (focus kernel_rfl); (focus (simp [go_sem]; exact ⟨rfl, rfl⟩)); try dsimp only [thn, inBlk])
    | (apply AWP.dE hmix [.n 0 [0], .n 1 [4], .n 2 [56], .n 3 [0], .n 4 [4], .n 5 [59], .n 6 [8], .n 7 [61], .n 8 [62], .n 9 [8], .n 10 [64], .n 11 [55, 57], .w 12 [66, 63] [], .n 13 [58, 60], .w 14 [67, 65] []]; (focus kernel_rfl); (focus (simp [go_sem]; exact ⟨rfl, rfl⟩)); try dsimp only [thn, inBlk])
    | (apply AWP.dE hmix [.n 0 [0], .n 1 [4], .n 2 [69], .n 3 [0], .n 4 [4], .n 5 [72], .n 6 [11], .n 7 [74], .n 8 [75], .n 9 [11], .n 10 [77], .n 11 [68, 70], .w 12 [79, 76] [], .n 13 [71, 73], .w 14 [80, 78] []]; (focus kernel_rfl); (focus (simp [go_sem]; exact ⟨rfl, rfl⟩)); try dsimp only [thn, inBlk])
    | (apply AWP.dE hmix [.n 0 [0], .n 1 [4], .n 2 [82], .n 3 [0], .n 4 [4], .n 5 [85], .n 6 [10], .n 7 [87], .n 8 [88], .n 9 [10], .n 10 [90], .n 11 [81, 83], .w 12 [92, 89] [], .n 13 [84, 86], .w 14 [93, 91] []]; (focus kernel_rfl); (focus (simp [go_sem]; exact ⟨rfl, rfl⟩)); try dsimp only [thn, inBlk])
    | (apply AWP.dE hmix [.n 0 [0], .n 1 [4], .n 2 [111], .n 3 [0], .n 4 [4], .n 5 [114], .n 6 [15], .n 7 [116], .n 8 [117], .n 9 [15], .n 10 [119], .n 11 [110, 112], .w 12 [121, 118] [], .n 13 [113, 115], .w 14 [122, 120] []]; (focus kernel_rfl); (focus (simp [go_sem]; exact ⟨rfl, rfl⟩)); try dsimp only [thn, inBlk])
    | (apply AWP.dE hmix [.n 0 [0], .n 1 [4], .n 2 [124], .n 3 [0], .n 4 [4], .n 5 [127], .n 6 [14], .n 7 [129], .n 8 [130], .n 9 [14], .n 10 [132], .n 11 [123, 125], .w 12 [134, 131] [], .n 13 [126, 128], .w 14 [135, 133] []]; (focus kernel_rfl); (focus (simp [go_sem]; exact ⟨rfl, rfl⟩)); try dsimp only [thn, inBlk])
    | (apply AWP.dE hmix [.n 0 [0], .n 1 [4], .n 2 [146], .n 3 [0], .n 4 [4], .n 5 [149], .n 6 [16], .n 7 [151], .n 8 [152], .n 9 [16], .n 10 [154], .n 11 [145, 147], .w 12 [156, 153] [], .n 13 [148, 150], .w 14 [157, 155] []]; (focus kernel_rfl); (focus (simp [go_sem]; exact ⟨rfl, rfl⟩)); try dsimp only [thn, inBlk])
    | fail)
  refine AWP.loopR [0, 1, 4] (fun m s h' => m = 0 ∧ s = ⟨167, [(0, .slice (some ⟨i, 0, none⟩) 3 24), (1, .int .u64 n), (4, .int .i64 3)]⟩ ∧ h' = h) ?_ ?_
  · exact ⟨_, rfl, rfl, rfl⟩
  rintro m s h' ⟨rfl, rfl, rfl⟩
  have k1 := k.set (arow [.int .u8 0, .int .u8 0, .int .u8 z.toNat, .int .u8 0, .int .u8 0, .int .u8 0, .int .u8 0, .int .u8 0, .int .u8 0, .int .u8 0, .int .u8 0, .int .u8 0, .int .u8 0, .int .u8 0, .int .u8 0, .int .u8 0, .int .u8 0, .int .u8 0, .int .u8 0, .int .u8 0, .int .u8 0, .int .u8 0, .int .u8 0, .int .u8 0])
  have c1 := k1.obj
  have k2 := k1.set (arow [.int .u8 0, .int .u8 y.toNat, .int .u8 z.toNat, .int .u8 0, .int .u8 0, .int .u8 0, .int .u8 0, .int .u8 0, .int .u8 0, .int .u8 0, .int .u8 0, .int .u8 0, .int .u8 0, .int .u8 0, .int .u8 0, .int .u8 0, .int .u8 0, .int .u8 0, .int .u8 0, .int .u8 0, .int .u8 0, .int .u8 0, .int .u8 0, .int .u8 0])
  have c2 := k2.obj
  have k3 := k2.set (arow [.int .u8 x.toNat, .int .u8 y.toNat, .int .u8 z.toNat, .int .u8 0, .int .u8 0, .int .u8 0, .int .u8 0, .int .u8 0, .int .u8 0, .int .u8 0, .int .u8 0, .int .u8 0, .int .u8 0, .int .u8 0, .int .u8 0, .int .u8 0, .int .u8 0, .int .u8 0, .int .u8 0, .int .u8 0, .int .u8 0, .int .u8 0, .int .u8 0, .int .u8 0])
  (repeat' first
    | refine AWP.seq ?_
    | refine AWP.block ?_
    | (refine AWP.skip ?_; try dsimp only [thn, inBlk])
    | (refine AWP.exit ?_; try simp only [thn, inBlk, if_true, reduceIte, Nat.reduceEqDiff])
    | (refine AWP.ret ?_; try dsimp only [thn, inBlk])
    | (refine AWP.condT ?_ ?_; (focus (simp [go_sem, ci, c1, c2, w0, t1, t2, t3, t4, t5, x0, x1, v1, v2]; done)))
    | (refine AWP.condF ?_ ?_; (focus (simp [go_sem, ci, c1, c2, w0, t1, t2, t3, t4, t5, x0, x1, v1, v2]; done)))
    | (apply AWP.rE; (focus (simp [go_sem, ci, c1, c2, w0, t1, t2, t3, t4, t5, x0, x1, v1, v2]; exact ⟨rfl, rfl⟩)); try dsimp only [thn, inBlk])
    | (apply AWP.dE hmix [.n 0 [0], .n 1 [4], .n 2 [43], .n 3 [0], .n 4 [4], .n 5 [46], .n 6 [9], .n 7 [48], .n 8 [49], .n 9 [9], .n 10 [51], .n 11 [42, 44], .w 12 [53, 50] [], .n 13 [45, 47], .w 14 [54, 52] []]; (focus kernel_rfl); (focus (simp [go_sem, ci, c1, c2, w0, t1, t2, t3, t4, t5, x0, x1, v1, v2]; exact ⟨rfl, rfl⟩)); try dsimp only [thn, inBlk])
    | (apply AWP.dE hmix [.n 0 [0], .n 1 [4], .n 2 [56], .n 3 [0], .n 4 [4], .n 5 [59], .n 6 [8], .n 7 [61], .n 8 [62], .n 9 [8], .n 10 [64], .n 11 [55, 57], .w 12 [66, 63] [], .n 13 [58, 60], .w 14 [67, 65] []]; (focus kernel_rfl); (focus (simp [go_sem, ci, c1, c2, w0, t1, t2, t3, t4, t5, x0, x1, v1, v2]; exact ⟨rfl, rfl⟩)); try dsimp only [thn, inBlk])
    | (apply AWP.dE hmix [.n 0 [0], .n 1 [4], .n 2 [69], .n 3 [0], .n 4 [4], .n 5 [72], .n 6 [11], .n 7 [74], .n 8 [75], .n 9 [11], .n 10 [77], .n 11 [68, 70], .w 12 [79, 76] [], .n 13 [71, 73], .w 14 [80, 78] []]; (focus kernel_rfl); (focus (simp [go_sem, ci, c1, c2, w0, t1, t2, t3, t4, t5, x0, x1, v1, v2]; exact ⟨rfl, rfl⟩)); try dsimp only [thn, inBlk])
    | (apply AWP.dE hmix [.n 0 [0], .n 1 [4], .n 2 [82], .n 3 [0], .n 4 [4], .n 5 [85], .n 6 [10], .n 7 [87], .n 8 [88], .n 9 [10], .n 10 [90], .n 11 [81, 83], .w 12 [92, 89] [], .n 13 [84, 86], .w 14 [93, 91] []]; (focus kernel_rfl); (focus (simp [go_sem, ci, c1, c2, w0, t1, t2, t3, t4, t5, x0, x1, v1, v2]; exact ⟨rfl, rfl⟩)); try dsimp only [thn, inBlk])
    | (apply AWP.dE hmix [.n 0 [0], .n 1 [4], .n 2 [111], .n 3 [0], .n 4 [4], .n 5 [114], .n 6 [15], .n 7 [116], .n 8 [117], .n 9 [15], .n 10 [119], .n 11 [110, 112], .w 12 [121, 118] [], .n 13 [113, 115], .w 14 [122, 120] []]; (focus kernel_rfl); (focus (simp [go_sem, ci, c1, c2, w0, t1, t2, t3, t4, t5, x0, x1, v1, v2]; exact ⟨rfl, rfl⟩)); try dsimp only [thn, inBlk])
    | (apply AWP.dE hmix [.n 0 [0], .n 1 [4], .n 2 [124], .n 3 [0], .n 4 [4], .n 5 [127], .n 6 [14], .n 7 [129], .n 8 [130], .n 9 [14], .n 10 [132], .n 11 [123, 125], .w 12 [134, 131] [], .n 13 [126, 128], .w 14 [135, 133] []]; (focus kernel_rfl); (focus (simp [go_sem, ci, c1, c2, w0, t1, t2, t3, t4, t5, x0, x1, v1, v2]; exact ⟨rfl, rfl⟩)); try dsimp only [thn, inBlk])
    | (apply AWP.dE hmix [.n 0 [0], .n 1 [4], .n 2 [146], .n 3 [0], .n 4 [4], .n 5 [149], .n 6 [16], .n 7 [151], .n 8 [152], .n 9 [16], .n 10 [154], .n 11 [145, 147], .w 12 [156, 153] [], .n 13 [148, 150], .w 14 [157, 155] []]; (focus kernel_rfl); (focus (simp [go_sem, ci, c1, c2, w0, t1, t2, t3, t4, t5, x0, x1, v1, v2]; exact ⟨rfl, rfl⟩)); try dsimp only [thn, inBlk])
    | fail)
  (repeat' first
    | refine AWP.seq ?_
    | refine AWP.block ?_
    | (refine AWP.skip ?_; try dsimp only [thn, inBlk])
    | (refine AWP.exit ?_; try simp only [thn, inBlk, if_true, reduceIte, Nat.reduceEqDiff])
    | (refine AWP.ret ?_; try dsimp only [thn, inBlk])
    | (refine AWP.condT ?_ ?_; (focus (simp [go_sem, ci, c1, c2, w0, t1, t2, t3, t4, t5, x0, x1, v1, v2, p0, p1, p2]; done)))
    | (refine AWP.condF ?_ ?_; (focus (simp [go_sem, ci, c1, c2, w0, t1, t2, t3, t4, t5, x0, x1, v1, v2, p0, p1, p2]; done)))
    | (apply AWP.rE; (focus (simp [go_sem, ci, c1, c2, w0, t1, t2, t3, t4, t5, x0, x1, v1, v2, p0, p1, p2]; exact ⟨rfl, rfl⟩)); try dsimp only [thn, inBlk])
    | (apply AWP.dE hmix [.n 0 [0], .n 1 [4], .n 2 [43], .n 3 [0], .n 4 [4], .n 5 [46], .n 6 [9], .n 7 [48], .n 8 [49], .n 9 [9], .n 10 [51], .n 11 [42, 44], .w 12 [53, 50] [], .n 13 [45, 47], .w 14 [54, 52] []]; (focus kernel_rfl); (focus (simp [go_sem, ci, c1, c2, w0, t1, t2, t3, t4, t5, x0, x1, v1, v2, p0, p1, p2]; exact ⟨rfl, rfl⟩)); try dsimp only [thn, inBlk])
    | (apply AWP.dE hmix [.n 0 [0], .n 1 [4], .n 2 [56], .n 3 [0], .n 4 [4], .n 5 [59], .n 6 [8], .n 7 [61], .n 8 [62], .n 9 [8], .n 10 [64], .n 11 [55, 57], .w 12 [66, 63] [], .n 13 [58, 60], .w 14 [67, 65] []]; (focus kernel_rfl); (focus (simp [go_sem, ci, c1, c2, w0, t1, t2, t3, t4, t5, x0, x1, v1, v2, p0, p1, p2]; exact ⟨rfl, rfl⟩)); try dsimp only [thn, inBlk])
    | (apply AWP.dE hmix [.n 0 [0], .n 1 [4], .n 2 [69], .n 3 [0], .n 4 [4], .n 5 [72], .n 6 [11], .n 7 [74], .n 8 [75], .n 9 [11], .n 10 [77], .n 11 [68, 70], .w 12 [79, 76] [], .n 13 [71, 73], .w 14 [80, 78] []]; (focus kernel_rfl); (focus (simp [go_sem, ci, c1, c2, w0, t1, t2, t3, t4, t5, x0, x1, v1, v2, p0, p1, p2]; exact ⟨rfl, rfl⟩)); try dsimp only [thn, inBlk])
    | (apply AWP.dE hmix [.n 0 [0], .n 1 [4], .n 2 [82], .n 3 [0], .n 4 [4], .n 5 [85], .n 6 [10], .n 7 [87], .n 8 [88], .n 9 [10], .n 10 [90], .n 11 [81, 83], .w 12 [92, 89] [], .n 13 [84, 86], .w 14 [93, 91] []]; (focus kernel_rfl); (focus (simp [go_sem, ci, c1, c2, w0, t1, t2, t3, t4, t5, x0, x1, v1, v2, p0, p1, p2]; exact ⟨rfl, rfl⟩)); try dsimp only [thn, inBlk])
    | (apply AWP.dE hmix [.n 0 [0], .n 1 [4], .n 2 [111], .n 3 [0], .n 4 [4], .n 5 [114], .n 6 [15], .n 7 [116], .n 8 [117], .n 9 [15], .n 10 [119], .n 11 [110, 112], .w 12 [121, 118] [], .n 13 [113, 115], .w 14 [122, 120] []]; (focus kernel_rfl); (focus (simp [go_sem, ci, c1, c2, w0, t1, t2, t3, t4, t5, x0, x1, v1, v2, p0, p1, p2]; exact ⟨rfl, rfl⟩)); try dsimp only [thn, inBlk])
    | (apply AWP.dE hmix [.n 0 [0], .n 1 [4], .n 2 [124], .n 3 [0], .n 4 [4], .n 5 [127], .n 6 [14], .n 7 [129], .n 8 [130], .n 9 [14], .n 10 [132], .n 11 [123, 125], .w 12 [134, 131] [], .n 13 [126, 128], .w 14 [135, 133] []]; (focus kernel_rfl); (focus (simp [go_sem, ci, c1, c2, w0, t1, t2, t3, t4, t5, x0, x1, v1, v2, p0, p1, p2]; exact ⟨rfl, rfl⟩)); try dsimp only [thn, inBlk])
    | (apply AWP.dE hmix [.n 0 [0], .n 1 [4], .n 2 [146], .n 3 [0], .n 4 [4], .n 5 [149], .n 6 [16], .n 7 [151], .n 8 [152], .n 9 [16], .n 10 [154], .n 11 [145, 147], .w 12 [156, 153] [], .n 13 [148, 150], .w 14 [157, 155] []]; (focus kernel_rfl); (focus (simp [go_sem, ci, c1, c2, w0, t1, t2, t3, t4, t5, x0, x1, v1, v2, p0, p1, p2]; exact ⟨rfl, rfl⟩)); try dsimp only [thn, inBlk])
    | fail)
  simp [bodyQ, thn, inBlk, resA, resV, go_sem]
  exact ⟨x, y, z, hdg, k3⟩
theorem fb4_calls {i : Nat} (k : Own O h (cell i (arow [.int .u8 0, .int .u8 0, .int .u8 0, .int .u8 0, .int .u8 0, .int .u8 0, .int .u8 0, .int .u8 0, .int .u8 0, .int .u8 0, .int .u8 0, .int .u8 0, .int .u8 0, .int .u8 0, .int .u8 0, .int .u8 0, .int .u8 0, .int .u8 0, .int .u8 0, .int .u8 0, .int .u8 0, .int .u8 0, .int .u8 0, .int .u8 0]) :: R)) : ACalls Tryz.prog 131 #[.slice (some ⟨i, 0, none⟩) 4 24, .int .u64 1000] h fun r h' => r = .tuple #[] ∧ Own O h' (cell i (arow [.int .u8 49, .int .u8 48, .int .u8 48, .int .u8 48, .int .u8 0, .int .u8 0, .int .u8 0, .int .u8 0, .int .u8 0, .int .u8 0, .int .u8 0, .int .u8 0, .int .u8 0, .int .u8 0, .int .u8 0, .int .u8 0, .int .u8 0, .int .u8 0, .int .u8 0, .int .u8 0, .int .u8 0, .int .u8 0, .int .u8 0, .int .u8 0]) :: R) := by
  refine ACalls.of_awp (args := [.slice (some ⟨i, 0, none⟩) 4 24, .int .u64 1000]) (n := 167) Tryz.func131 rfl rfl (by show 2 ≤ 167; omega) ?_
  have ci := k.obj
  have w1000 : IntKind.u32.wrap 1000 = 1000 := by decide
  have w0 : IntKind.u32.wrap 0 = 0 := by decide
  have w10 : IntKind.u32.wrap 10 = 10 := by decide
  have w20 : IntKind.u32.wrap 20 = 20 := by decide
  have w1 : IntKind.u32.wrap 1 = 1 := by decide
  have w21 : IntKind.u32.wrap 21 = 21 := by decide
  have v1 : IntKind.i64.wrap 1 = 1 := by decide
  have v2 : IntKind.i64.wrap 2 = 2 := by decide
  have v3 : IntKind.i64.wrap 3 = 3 := by decide
  have v4 : IntKind.i64.wrap 4 = 4 := by decide
  have v0 : IntKind.i64.wrap 0 = 0 := by decide
  have x0 : indexP Tryz.prog 9 (.string smB) (.int .u32 0) = some (.int .u8 48) := smB_at (i := 0) (c := 48) rfl
  have x1 : indexP Tryz.prog 9 (.string smB) (.int .u32 1) = some (.int .u8 48) := smB_at (i := 1) (c := 48) rfl
  have x20 : indexP Tryz.prog 9 (.string smB) (.int .u32 20) = some (.int .u8 49) := smB_at (i := 20) (c := 49) rfl
  have x21 : indexP Tryz.prog 9 (.string smB) (.int .u32 21) = some (.int .u8 48) := smB_at (i := 21) (c := 48) rfl
  have p0 : indexAddrP Tryz.prog 32 (.slice (some ⟨i, 0, none⟩) 4 24) (.int .i64 0) = some (.pointer (some ⟨i, 0, none⟩)) := by simp [indexAddrP, go_sem]
  have p1 : indexAddrP Tryz.prog 32 (.slice (some ⟨i, 0, none⟩) 4 24) (.int .i64 1) = some (.pointer (some ⟨i, 1, none⟩)) := by simp [indexAddrP, go_sem]
  have p2 : indexAddrP Tryz.prog 32 (.slice (some ⟨i, 0, none⟩) 4 24) (.int .i64 2) = some (.pointer (some ⟨i, 2, none⟩)) := by simp [indexAddrP, go_sem]
  have p3 : indexAddrP Tryz.prog 32 (.slice (some ⟨i, 0, none⟩) 4 24) (.int .i64 3) = some (.pointer (some ⟨i, 3, none⟩)) := by simp [indexAddrP, go_sem]
  have k0 := k.set (arow [.int .u8 0, .int .u8 0, .int .u8 0, .int .u8 48, .int .u8 0, .int .u8 0, .int .u8 0, .int .u8 0, .int .u8 0, .int .u8 0, .int .u8 0, .int .u8 0, .int .u8 0, .int .u8 0, .int .u8 0, .int .u8 0, .int .u8 0, .int .u8 0, .int .u8 0, .int .u8 0, .int .u8 0, .int .u8 0, .int .u8 0, .int .u8 0])
  have c0 := k0.obj
  have k1 := k0.set (arow [.int .u8 0, .int .u8 0, .int .u8 48, .int .u8 48, .int .u8 0, .int .u8 0, .int .u8 0, .int .u8 0, .int .u8 0, .int .u8 0, .int .u8 0, .int .u8 0, .int .u8 0, .int .u8 0, .int .u8 0, .int .u8 0, .int .u8 0, .int .u8 0, .int .u8 0, .int .u8 0, .int .u8 0, .int .u8 0, .int .u8 0, .int .u8 0])
  have c1 := k1.obj
  have k2 := k1.set (arow [.int .u8 0, .int .u8 48, .int .u8 48, .int .u8 48, .int .u8 0, .int .u8 0, .int .u8 0, .int .u8 0, .int .u8 0, .int .u8 0, .int .u8 0, .int .u8 0, .int .u8 0, .int .u8 0, .int .u8 0, .int .u8 0, .int .u8 0, .int .u8 0, .int .u8 0, .int .u8 0, .int .u8 0, .int .u8 0, .int .u8 0, .int .u8 0])
  have c2 := k2.obj
  have k3 := k2.set (arow [.int .u8 49, .int .u8 48, .int .u8 48, .int .u8 48, .int .u8 0, .int .u8 0, .int .u8 0, .int .u8 0, .int .u8 0, .int .u8 0, .int .u8 0, .int .u8 0, .int .u8 0, .int .u8 0, .int .u8 0, .int .u8 0, .int .u8 0, .int .u8 0, .int .u8 0, .int .u8 0, .int .u8 0, .int .u8 0, .int .u8 0, .int .u8 0])
  have c3 := k3.obj
  (repeat' first
    | refine AWP.seq ?_
    | refine AWP.block ?_
    | (refine AWP.skip ?_; try dsimp only [thn, inBlk])
    | (refine AWP.exit ?_; try simp only [thn, inBlk, if_true, reduceIte, Nat.reduceEqDiff])
    | (refine AWP.ret ?_; try dsimp only [thn, inBlk])
    | (refine AWP.condT ?_ ?_; (focus (simp [go_sem]; done)))
    | (refine AWP.condF ?_ ?_; (focus (simp [go_sem]; done)))
    | (apply AWP.rE; (focus (simp [go_sem]; exact ⟨rfl, rfl⟩)); try dsimp only [thn, inBlk])
    | (apply AWP.dE hmix [.n 0 [0], .n 1 [4], .n 2 [43], .n 3 [0], .n 4 [4], .n 5 [46], .n 6 [9], .n 7 [48], .n 8 [49], .n 9 [9], .n 10 [51], .n 11 [42, 44], .w 12 [53, 50] [], .n 13 [45, 47], .w 14 [54, 52] []]; (focus kernel_rfl); (focus (simp [go_sem]; exact ⟨rfl, rfl⟩)); try dsimp only [thn, inBlk])
    | (apply AWP.dE hmix [.n 0 [0], .n 1 [4], .n 2 [56], .n 3 [0], .n 4 [4], .n 5 [59], .n 6 [8], .n 7 [61], .n 8 [62], .n 9 [8], .n 10 [64], .n 11 [55, 57], .w 12 [66, 63] [], .n 13 [58, 60], .w 14 [67, 65] []]; (focus kernel_rfl); (focus (simp [go_sem]; exact ⟨rfl, rfl⟩)); try dsimp only [thn, inBlk])
    | (apply AWP.dE hmix [.n 0 [0], .n 1 [4], .n 2 [69], .n 3 [0], .n 4 [4], .n 5 [72], .n 6 [11], .n 7 [74], .n 8 [75], .n 9 [11], .n 10 [77], .n 11 [68, 70], .w 12 [79, 76] [], .n 13 [71, 73], .w 14 [80, 78] []]; (focus kernel_rfl); (focus (simp [go_sem]; exact ⟨rfl, rfl⟩)); try dsimp only [thn, inBlk])
    | (apply AWP.dE hmix [.n 0 [0], .n 1 [4], .n 2 [82], .n 3 [0], .n 4 [4], .n 5 [85], .n 6 [10], .n 7 [87], .n 8 [88], .n 9 [10], .n 10 [90], .n 11 [81, 83], .w 12 [92, 89] [], .n 13 [84, 86], .w 14 [93, 91] []]; (focus kernel_rfl); (focus (simp [go_sem]; exact ⟨rfl, rfl⟩)); try dsimp only [thn, inBlk])
    | (apply AWP.dE hmix [.n 0 [0], .n 1 [4], .n 2 [111], .n 3 [0], .n 4 [4], .n 5 [114], .n 6 [15], .n 7 [116], .n 8 [117], .n 9 [15], .n 10 [119], .n 11 [110, 112], .w 12 [121, 118] [], .n 13 [113, 115], .w 14 [122, 120] []]; (focus kernel_rfl); (focus (simp [go_sem]; exact ⟨rfl, rfl⟩)); try dsimp only [thn, inBlk])
    | (apply AWP.dE hmix [.n 0 [0], .n 1 [4], .n 2 [124], .n 3 [0], .n 4 [4], .n 5 [127], .n 6 [14], .n 7 [129], .n 8 [130], .n 9 [14], .n 10 [132], .n 11 [123, 125], .w 12 [134, 131] [], .n 13 [126, 128], .w 14 [135, 133] []]; (focus kernel_rfl); (focus (simp [go_sem]; exact ⟨rfl, rfl⟩)); try dsimp only [thn, inBlk])
    | (apply AWP.dE hmix [.n 0 [0], .n 1 [4], .n 2 [146], .n 3 [0], .n 4 [4], .n 5 [149], .n 6 [16], .n 7 [151], .n 8 [152], .n 9 [16], .n 10 [154], .n 11 [145, 147], .w 12 [156, 153] [], .n 13 [148, 150], .w 14 [157, 155] []]; (focus kernel_rfl); (focus (simp [go_sem]; exact ⟨rfl, rfl⟩)); try dsimp only [thn, inBlk])
    | fail)
  refine AWP.loopR [0, 1, 4] (fun m s h' => m = 0 ∧ s = ⟨167, [(0, .slice (some ⟨i, 0, none⟩) 4 24), (1, .int .u64 1000), (4, .int .i64 4)]⟩ ∧ h' = h) ?_ ?_
  · exact ⟨_, rfl, rfl, rfl⟩
  rintro m s h' ⟨rfl, rfl, rfl⟩
  (repeat' first
    | refine AWP.seq ?_
    | refine AWP.block ?_
    | (refine AWP.skip ?_; try dsimp only [thn, inBlk])
    | (refine AWP.exit ?_; try simp only [thn, inBlk, if_true, reduceIte, Nat.reduceEqDiff])
    | (refine AWP.ret ?_; try dsimp only [thn, inBlk])
    | (refine AWP.condT ?_ ?_; (focus (simp [go_sem, ci, c0, c1, c2, c3, w1000, w0, w10, w20, w1, w21, v1, v2, v3, v4, v0, x0, x1, x20, x21, p0, p1, p2, p3]; done)))
    | (refine AWP.condF ?_ ?_; (focus (simp [go_sem, ci, c0, c1, c2, c3, w1000, w0, w10, w20, w1, w21, v1, v2, v3, v4, v0, x0, x1, x20, x21, p0, p1, p2, p3]; done)))
    | (apply AWP.rE; (focus (simp [go_sem, ci, c0, c1, c2, c3, w1000, w0, w10, w20, w1, w21, v1, v2, v3, v4, v0, x0, x1, x20, x21, p0, p1, p2, p3]; exact ⟨rfl, rfl⟩)); try dsimp only [thn, inBlk])
    | (apply AWP.dE hmix [.n 0 [0], .n 1 [4], .n 2 [43], .n 3 [0], .n 4 [4], .n 5 [46], .n 6 [9], .n 7 [48], .n 8 [49], .n 9 [9], .n 10 [51], .n 11 [42, 44], .w 12 [53, 50] [], .n 13 [45, 47], .w 14 [54, 52] []]; (focus kernel_rfl); (focus (simp [go_sem, ci, c0, c1, c2, c3, w1000, w0, w10, w20, w1, w21, v1, v2, v3, v4, v0, x0, x1, x20, x21, p0, p1, p2, p3]; exact ⟨rfl, rfl⟩)); try dsimp only [thn, inBlk])
    | (apply AWP.dE hmix [.n 0 [0], .n 1 [4], .n 2 [56], .n 3 [0], .n 4 [4], .n 5 [59], .n 6 [8], .n 7 [61], .n 8 [62], .n 9 [8], .n 10 [64], .n 11 [55, 57], .w 12 [66, 63] [], .n 13 [58, 60], .w 14 [67, 65] []]; (focus kernel_rfl); (focus (simp [go_sem, ci, c0, c1, c2, c3, w1000, w0, w10, w20, w1, w21, v1, v2, v3, v4, v0, x0, x1, x20, x21, p0, p1, p2, p3]; exact ⟨rfl, rfl⟩)); try dsimp only [thn, inBlk])
    | (apply AWP.dE hmix [.n 0 [0], .n 1 [4], .n 2 [69], .n 3 [0], .n 4 [4], .n 5 [72], .n 6 [11], .n 7 [74], .n 8 [75], .n 9 [11], .n 10 [77], .n 11 [68, 70], .w 12 [79, 76] [], .n 13 [71, 73], .w 14 [80, 78] []]; (focus kernel_rfl); (focus (simp [go_sem, ci, c0, c1, c2, c3, w1000, w0, w10, w20, w1, w21, v1, v2, v3, v4, v0, x0, x1, x20, x21, p0, p1, p2, p3]; exact ⟨rfl, rfl⟩)); try dsimp only [thn, inBlk])
    | (apply AWP.dE hmix [.n 0 [0], .n 1 [4], .n 2 [82], .n 3 [0], .n 4 [4], .n 5 [85], .n 6 [10], .n 7 [87], .n 8 [88], .n 9 [10], .n 10 [90], .n 11 [81, 83], .w 12 [92, 89] [], .n 13 [84, 86], .w 14 [93, 91] []]; (focus kernel_rfl); (focus (simp [go_sem, ci, c0, c1, c2, c3, w1000, w0, w10, w20, w1, w21, v1, v2, v3, v4, v0, x0, x1, x20, x21, p0, p1, p2, p3]; exact ⟨rfl, rfl⟩)); try dsimp only [thn, inBlk])
    | (apply AWP.dE hmix [.n 0 [0], .n 1 [4], .n 2 [111], .n 3 [0], .n 4 [4], .n 5 [114], .n 6 [15], .n 7 [116], .n 8 [117], .n 9 [15], .n 10 [119], .n 11 [110, 112], .w 12 [121, 118] [], .n 13 [113, 115], .w 14 [122, 120] []]; (focus kernel_rfl); (focus (simp [go_sem, ci, c0, c1, c2, c3, w1000, w0, w10, w20, w1, w21, v1, v2, v3, v4, v0, x0, x1, x20, x21, p0, p1, p2, p3]; exact ⟨rfl, rfl⟩)); try dsimp only [thn, inBlk])
    | (apply AWP.dE hmix [.n 0 [0], .n 1 [4], .n 2 [124], .n 3 [0], .n 4 [4], .n 5 [127], .n 6 [14], .n 7 [129], .n 8 [130], .n 9 [14], .n 10 [132], .n 11 [123, 125], .w 12 [134, 131] [], .n 13 [126, 128], .w 14 [135, 133] []]; (focus kernel_rfl); (focus (simp [go_sem, ci, c0, c1, c2, c3, w1000, w0, w10, w20, w1, w21, v1, v2, v3, v4, v0, x0, x1, x20, x21, p0, p1, p2, p3]; exact ⟨rfl, rfl⟩)); try dsimp only [thn, inBlk])
    | (apply AWP.dE hmix [.n 0 [0], .n 1 [4], .n 2 [146], .n 3 [0], .n 4 [4], .n 5 [149], .n 6 [16], .n 7 [151], .n 8 [152], .n 9 [16], .n 10 [154], .n 11 [145, 147], .w 12 [156, 153] [], .n 13 [148, 150], .w 14 [157, 155] []]; (focus kernel_rfl); (focus (simp [go_sem, ci, c0, c1, c2, c3, w1000, w0, w10, w20, w1, w21, v1, v2, v3, v4, v0, x0, x1, x20, x21, p0, p1, p2, p3]; exact ⟨rfl, rfl⟩)); try dsimp only [thn, inBlk])
    | fail)
  simp [bodyQ, thn, inBlk, resA, resV, go_sem]
  exact k3
theorem appu_calls {v : Value} {l : List UInt8} {n : Nat} (g : GP O) (k : Own O h (ob 5 v l :: R)) (hn : n ≤ 1000) (hl : l.length ≤ 1000000) : ACalls Tryz.prog 106 #[v, .int .u64 n, .int .i64 10] h fun r h' => ∃ a cap, r = .slice a (l.length + (dg n).length) cap ∧ Own O h' (ob 5 (.slice a (l.length + (dg n).length) cap) (l ++ dg n) :: R) := by
  obtain ⟨va, vc, rfl⟩ := k.ob_bytes.val
  refine ACalls.of_awp (args := [.slice va l.length vc, .int .u64 n, .int .i64 10]) (n := 36) Tryz.func106 rfl rfl (by show 3 ≤ 36; omega) ?_
  have w1 : IntKind.i64.wrap (n : Int) = n := by rw [wI64 (by omega) (by omega)]
  have hdl := (dg_len n).1
  by_cases h1 : n < 100
  · have h1' : (n : Int) < 100 := by omega
    (repeat' first
      | refine AWP.seq ?_
      | refine AWP.block ?_
      | (refine AWP.skip ?_; try dsimp only [thn, inBlk])
      | (refine AWP.exit ?_; try simp only [thn, inBlk, if_true, reduceIte, Nat.reduceEqDiff])
      | (refine AWP.ret ?_; try dsimp only [thn, inBlk])
      | (refine AWP.condT ?_ ?_; (focus (simp [go_sem, h1']; done)))
      | (refine AWP.condF ?_ ?_; (focus (simp [go_sem, h1']; done)))
      | (apply AWP.rE; (focus (simp [go_sem, h1']; exact ⟨rfl, rfl⟩)); try dsimp only [thn, inBlk])
      | fail)
    refine AWP.callE (by simp [go_sem, w1]; exact ⟨rfl, rfl, rfl, rfl, rfl⟩) (by kernel_rfl) ?_
    refine (small_calls h1).mono ?_
    rintro r h2 ⟨rfl, rfl⟩
    obtain ⟨a, cap, h3, e3, k3⟩ := k.appB (P := Tryz.prog) (t := 32) (xt := 9) (xv := tx (dg n)) (xs := dg n) Tryz.underlying32 tsz5 tby5 tz5 nI9 rfl (by omega)
    refine awpL_restE (by simp [go_sem, e3]; exact ⟨rfl, rfl⟩) ?_; try dsimp only [thn, inBlk]
    (repeat' first
      | refine AWP.seq ?_
      | refine AWP.block ?_
      | (refine AWP.skip ?_; try dsimp only [thn, inBlk])
      | (refine AWP.exit ?_; try simp only [thn, inBlk, if_true, reduceIte, Nat.reduceEqDiff])
      | (refine AWP.ret ?_; try dsimp only [thn, inBlk])
      | (refine AWP.condT ?_ ?_; (focus (simp [go_sem]; done)))
      | (refine AWP.condF ?_ ?_; (focus (simp [go_sem]; done)))
      | (apply AWP.rE; (focus (simp [go_sem]; exact ⟨rfl, rfl⟩)); try dsimp only [thn, inBlk])
      | fail)
    simp [bodyQ, thn, inBlk, resA, resV, go_sem]
    exact ⟨_, _, ⟨rfl, rfl⟩, k3⟩
  have h1' : ¬ (n : Int) < 100 := by omega
  have k1 := k.push (arow [.int .u8 0, .int .u8 0, .int .u8 0, .int .u8 0, .int .u8 0, .int .u8 0, .int .u8 0, .int .u8 0, .int .u8 0, .int .u8 0, .int .u8 0, .int .u8 0, .int .u8 0, .int .u8 0, .int .u8 0, .int .u8 0, .int .u8 0, .int .u8 0, .int .u8 0, .int .u8 0, .int .u8 0, .int .u8 0, .int .u8 0, .int .u8 0])
  have c1 := k1.obj
  (repeat' first
    | refine AWP.seq ?_
    | refine AWP.block ?_
    | (refine AWP.skip ?_; try dsimp only [thn, inBlk])
    | (refine AWP.exit ?_; try simp only [thn, inBlk, if_true, reduceIte, Nat.reduceEqDiff])
    | (refine AWP.ret ?_; try dsimp only [thn, inBlk])
    | (refine AWP.condT ?_ ?_; (focus (simp [go_sem, h1']; done)))
    | (refine AWP.condF ?_ ?_; (focus (simp [go_sem, h1']; done)))
    | (apply AWP.rE; (focus (simp [go_sem, h1']; exact ⟨rfl, rfl⟩)); try dsimp only [thn, inBlk])
    | fail)
  refine AWP.callE (by simp [go_sem]; exact ⟨rfl, rfl, rfl, rfl, rfl⟩) (by kernel_rfl) ?_
  refine (nd_calls g k1 hn (by omega)).mono ?_
  rintro r h2 ⟨rfl, rfl⟩
  by_cases h2 : n < 1000
  · rw [if_pos h2]
    have s1 : sliceR Tryz.prog (h.push (arow [.int .u8 0, .int .u8 0, .int .u8 0, .int .u8 0, .int .u8 0, .int .u8 0, .int .u8 0, .int .u8 0, .int .u8 0, .int .u8 0, .int .u8 0, .int .u8 0, .int .u8 0, .int .u8 0, .int .u8 0, .int .u8 0, .int .u8 0, .int .u8 0, .int .u8 0, .int .u8 0, .int .u8 0, .int .u8 0, .int .u8 0, .int .u8 0])) 164 (.pointer (some ⟨h.next, 0, none⟩)) none (some (.int .i64 3)) none = some (.slice (some ⟨h.next, 0, none⟩) 3 24) := by simp [sliceR, arrSlice, bnds, Ab.sb, go_sem]
    refine awpL_restE (by simp [go_sem]; exact ⟨rfl, rfl⟩) ?_; try dsimp only [thn, inBlk]
    (repeat' first
      | refine AWP.seq ?_
      | refine AWP.block ?_
      | (refine AWP.skip ?_; try dsimp only [thn, inBlk])
      | (refine AWP.exit ?_; try simp only [thn, inBlk, if_true, reduceIte, Nat.reduceEqDiff])
      | (refine AWP.ret ?_; try dsimp only [thn, inBlk])
      | (refine AWP.condT ?_ ?_; (focus (simp [go_sem]; done)))
      | (refine AWP.condF ?_ ?_; (focus (simp [go_sem]; done)))
      | (apply AWP.rE; (focus (simp [go_sem]; exact ⟨rfl, rfl⟩)); try dsimp only [thn, inBlk])
      | fail)
    refine AWP.callE (by simp [go_sem, s1]; exact ⟨rfl, rfl, rfl, rfl, rfl⟩) (by kernel_rfl) ?_
    refine (fb3_calls k1 (by omega) h2).mono ?_
    rintro r h4 ⟨rfl, x, y, z, hdg, k4⟩
    have c4 := k4.obj
    have s2 : sliceR Tryz.prog h4 164 (.pointer (some ⟨h.next, 0, none⟩)) none (some (.int .i64 3)) none = some (.slice (some ⟨h.next, 0, none⟩) 3 24) := by simp [sliceR, arrSlice, bnds, Ab.sb, go_sem]
    obtain ⟨a, cap, h5, e5, k5⟩ := k4.b1.appB (P := Tryz.prog) (t := 32) (xt := 32) (xv := .slice (some ⟨h.next, 0, none⟩) 3 24) (xs := dg n) Tryz.underlying32 tsz5 tby5 tz5 nI32 (by rw [hdg]; simp [srcCells, c4, B]) (by omega)
    have hl3 : (dg n).length = 3 := by rw [hdg]; rfl
    rw [hl3] at e5 k5 ⊢
    refine awpL_restE (by simp [go_sem]; exact ⟨rfl, rfl⟩) ?_; try dsimp only [thn, inBlk]
    (repeat' first
      | refine AWP.seq ?_
      | refine AWP.block ?_
      | (refine AWP.skip ?_; try dsimp only [thn, inBlk])
      | (refine AWP.exit ?_; try simp only [thn, inBlk, if_true, reduceIte, Nat.reduceEqDiff])
      | (refine AWP.ret ?_; try dsimp only [thn, inBlk])
      | (refine AWP.condT ?_ ?_; (focus (simp [go_sem, s2, e5]; done)))
      | (refine AWP.condF ?_ ?_; (focus (simp [go_sem, s2, e5]; done)))
      | (apply AWP.rE; (focus (simp [go_sem, s2, e5]; exact ⟨rfl, rfl⟩)); try dsimp only [thn, inBlk])
      | fail)
    simp [bodyQ, thn, inBlk, resA, resV, go_sem]
    exact ⟨_, _, ⟨rfl, rfl⟩, k5.d1⟩
  · obtain rfl : n = 1000 := by omega
    rw [if_neg h2]
    have s1 : sliceR Tryz.prog (h.push (arow [.int .u8 0, .int .u8 0, .int .u8 0, .int .u8 0, .int .u8 0, .int .u8 0, .int .u8 0, .int .u8 0, .int .u8 0, .int .u8 0, .int .u8 0, .int .u8 0, .int .u8 0, .int .u8 0, .int .u8 0, .int .u8 0, .int .u8 0, .int .u8 0, .int .u8 0, .int .u8 0, .int .u8 0, .int .u8 0, .int .u8 0, .int .u8 0])) 164 (.pointer (some ⟨h.next, 0, none⟩)) none (some (.int .i64 4)) none = some (.slice (some ⟨h.next, 0, none⟩) 4 24) := by simp [sliceR, arrSlice, bnds, Ab.sb, go_sem]
    refine awpL_restE (by simp [go_sem]; exact ⟨rfl, rfl⟩) ?_; try dsimp only [thn, inBlk]
    (repeat' first
      | refine AWP.seq ?_
      | refine AWP.block ?_
      | (refine AWP.skip ?_; try dsimp only [thn, inBlk])
      | (refine AWP.exit ?_; try simp only [thn, inBlk, if_true, reduceIte, Nat.reduceEqDiff])
      | (refine AWP.ret ?_; try dsimp only [thn, inBlk])
      | (refine AWP.condT ?_ ?_; (focus (simp [go_sem]; done)))
      | (refine AWP.condF ?_ ?_; (focus (simp [go_sem]; done)))
      | (apply AWP.rE; (focus (simp [go_sem]; exact ⟨rfl, rfl⟩)); try dsimp only [thn, inBlk])
      | fail)
    refine AWP.callE (by simp [go_sem, s1]; exact ⟨rfl, rfl, rfl, rfl, rfl⟩) (by kernel_rfl) ?_
    refine (fb4_calls k1).mono ?_
    rintro r h4 ⟨rfl, k4⟩
    have c4 := k4.obj
    have hdg : dg 1000 = [49, 48, 48, 48] := by decide
    have s2 : sliceR Tryz.prog h4 164 (.pointer (some ⟨h.next, 0, none⟩)) none (some (.int .i64 4)) none = some (.slice (some ⟨h.next, 0, none⟩) 4 24) := by simp [sliceR, arrSlice, bnds, Ab.sb, go_sem]
    obtain ⟨a, cap, h5, e5, k5⟩ := k4.b1.appB (P := Tryz.prog) (t := 32) (xt := 32) (xv := .slice (some ⟨h.next, 0, none⟩) 4 24) (xs := dg 1000) Tryz.underlying32 tsz5 tby5 tz5 nI32 (by rw [hdg]; simp [srcCells, c4, B]) (by omega)
    have hl3 : (dg 1000).length = 4 := by rw [hdg]; rfl
    rw [hl3] at e5 k5 ⊢
    refine awpL_restE (by simp [go_sem]; exact ⟨rfl, rfl⟩) ?_; try dsimp only [thn, inBlk]
    (repeat' first
      | refine AWP.seq ?_
      | refine AWP.block ?_
      | (refine AWP.skip ?_; try dsimp only [thn, inBlk])
      | (refine AWP.exit ?_; try simp only [thn, inBlk, if_true, reduceIte, Nat.reduceEqDiff])
      | (refine AWP.ret ?_; try dsimp only [thn, inBlk])
      | (refine AWP.condT ?_ ?_; (focus (simp [go_sem, s2, e5]; done)))
      | (refine AWP.condF ?_ ?_; (focus (simp [go_sem, s2, e5]; done)))
      | (apply AWP.rE; (focus (simp [go_sem, s2, e5]; exact ⟨rfl, rfl⟩)); try dsimp only [thn, inBlk])
      | fail)
    simp [bodyQ, thn, inBlk, resA, resV, go_sem]
    exact ⟨_, _, ⟨rfl, rfl⟩, k5.d1⟩
theorem appi_calls {v : Value} {l : List UInt8} {n : Nat} (g : GP O) (k : Own O h (ob 5 v l :: R)) (hn : n ≤ 1000) (hl : l.length ≤ 1000000) : ACalls Tryz.prog 66 #[v, .int .i64 n, .int .i64 10] h fun r h' => ∃ a cap, r = .slice a (l.length + (dg n).length) cap ∧ Own O h' (ob 5 (.slice a (l.length + (dg n).length) cap) (l ++ dg n) :: R) := by
  obtain ⟨va, vc, rfl⟩ := k.ob_bytes.val
  refine ACalls.of_awp (args := [.slice va l.length vc, .int .i64 n, .int .i64 10]) (n := 11) Tryz.func66 rfl rfl (by show 3 ≤ 11; omega) ?_
  (repeat' first
    | refine AWP.seq ?_
    | refine AWP.block ?_
    | (refine AWP.skip ?_; try dsimp only [thn, inBlk])
    | (refine AWP.exit ?_; try simp only [thn, inBlk, if_true, reduceIte, Nat.reduceEqDiff])
    | (refine AWP.ret ?_; try dsimp only [thn, inBlk])
    | (refine AWP.condT ?_ ?_; (focus (simp [go_sem]; done)))
    | (refine AWP.condF ?_ ?_; (focus (simp [go_sem]; done)))
    | (apply AWP.rE; (focus (simp [go_sem]; exact ⟨rfl, rfl⟩)); try dsimp only [thn, inBlk])
    | fail)
  refine AWP.callE (by simp [go_sem]; exact ⟨rfl, rfl, rfl, rfl, rfl⟩) (by kernel_rfl) ?_
  refine ACalls.mono (Q := fun r h' => ∃ a cap, r = .slice a (l.length + (dg n).length) cap ∧ Own O h' (ob 5 (.slice a (l.length + (dg n).length) cap) (l ++ dg n) :: R)) ?_ ?_
  · refine ACalls.of_awp (args := [.slice va l.length vc, .int .i64 n, .int .i64 10]) (n := 21) Tryz.func86 rfl rfl (by show 3 ≤ 21; omega) ?_
    have w1 : IntKind.u64.wrap (n : Int) = n := by rw [wU64 (by omega) (by omega)]
    have h0 : ¬ (n : Int) < 0 := by omega
    (repeat' first
      | refine AWP.seq ?_
      | refine AWP.block ?_
      | (refine AWP.skip ?_; try dsimp only [thn, inBlk])
      | (refine AWP.exit ?_; try simp only [thn, inBlk, if_true, reduceIte, Nat.reduceEqDiff])
      | (refine AWP.ret ?_; try dsimp only [thn, inBlk])
      | (refine AWP.condT ?_ ?_; (focus (simp [go_sem, w1, h0]; done)))
      | (refine AWP.condF ?_ ?_; (focus (simp [go_sem, w1, h0]; done)))
      | (apply AWP.rE; (focus (simp [go_sem, w1, h0]; exact ⟨rfl, rfl⟩)); try dsimp only [thn, inBlk])
      | fail)
    refine AWP.callE (by simp [go_sem, w1]; exact ⟨rfl, rfl, rfl, rfl, rfl⟩) (by kernel_rfl) ?_
    refine (appu_calls g k hn hl).mono ?_
    rintro r h2 ⟨a, cap, rfl, k2⟩
    refine awpL_restE (by simp [go_sem]; exact ⟨rfl, rfl⟩) ?_; try dsimp only [thn, inBlk]
    (repeat' first
      | refine AWP.seq ?_
      | refine AWP.block ?_
      | (refine AWP.skip ?_; try dsimp only [thn, inBlk])
      | (refine AWP.exit ?_; try simp only [thn, inBlk, if_true, reduceIte, Nat.reduceEqDiff])
      | (refine AWP.ret ?_; try dsimp only [thn, inBlk])
      | (refine AWP.condT ?_ ?_; (focus (simp [go_sem]; done)))
      | (refine AWP.condF ?_ ?_; (focus (simp [go_sem]; done)))
      | (apply AWP.rE; (focus (simp [go_sem]; exact ⟨rfl, rfl⟩)); try dsimp only [thn, inBlk])
      | fail)
    simp [bodyQ, thn, inBlk, resA, resV, go_sem]
    exact ⟨_, _, ⟨rfl, rfl⟩, k2⟩
  rintro r h2 ⟨a, cap, rfl, k2⟩
  refine awpL_restE (by simp [go_sem]; exact ⟨rfl, rfl⟩) ?_; try dsimp only [thn, inBlk]
  (repeat' first
    | refine AWP.seq ?_
    | refine AWP.block ?_
    | (refine AWP.skip ?_; try dsimp only [thn, inBlk])
    | (refine AWP.exit ?_; try simp only [thn, inBlk, if_true, reduceIte, Nat.reduceEqDiff])
    | (refine AWP.ret ?_; try dsimp only [thn, inBlk])
    | (refine AWP.condT ?_ ?_; (focus (simp [go_sem]; done)))
    | (refine AWP.condF ?_ ?_; (focus (simp [go_sem]; done)))
    | (apply AWP.rE; (focus (simp [go_sem]; exact ⟨rfl, rfl⟩)); try dsimp only [thn, inBlk])
    | fail)
  simp [bodyQ, thn, inBlk, resA, resV, go_sem]
  exact ⟨_, _, ⟨rfl, rfl⟩, k2⟩
/-- A node's line. -/
theorem line_calls {c : UInt8} {mode size : Nat} {name : List UInt8} (g : GP O) (k : Own O h R) (hm : mode ≤ 63) (hs : size ≤ 1000) (hl : name.length ≤ 1000000) : ACalls Tryz.prog 46 #[.int .u8 c.toNat, .int .i64 mode, .int .i64 size, tx name] h fun r h' => ∃ a cap, r = .slice a (lineB c mode size name).length cap ∧ Own O h' (ob 5 (.slice a (lineB c mode size name).length cap) (lineB c mode size name) :: R) := by
  refine ACalls.of_awp (args := [.int .u8 c.toNat, .int .i64 mode, .int .i64 size, tx name]) (n := 30) Tryz.func46 rfl rfl (by show 4 ≤ 30; omega) ?_
  have hdl := (dg_len size).1
  obtain ⟨m1, hm1⟩ : ∃ m, m = mode / 8 := ⟨_, rfl⟩
  obtain ⟨m2, hm2⟩ : ∃ m, m = mode % 8 := ⟨_, rfl⟩
  have q1 : IntKind.i64.wrap ((mode : Int) / 8) = (m1 : Int) := by rw [wI64 (by omega) (by omega)]; omega
  have q2 : (mode : Int).tmod 8 = (m2 : Int) := by rw [Int.tmod_eq_emod_of_nonneg (by omega)]; omega
  obtain ⟨d1, hd1⟩ : ∃ d, d = dgt (mode / 8) := ⟨_, rfl⟩
  obtain ⟨d2, hd2⟩ : ∃ d, d = dgt (mode % 8) := ⟨_, rfl⟩
  have n1 : d1.toNat = 48 + mode / 8 := by
    rw [hd1]; show (UInt8.ofNat (48 + mode / 8)).toNat = 48 + mode / 8
    rw [UInt8.toNat_ofNat']; omega
  have n2 : d2.toNat = 48 + mode % 8 := by
    rw [hd2]; show (UInt8.ofNat (48 + mode % 8)).toNat = 48 + mode % 8
    rw [UInt8.toNat_ofNat']; omega
  have w1 : IntKind.u8.wrap (IntKind.i64.wrap (48 + (m1 : Int))) = (d1.toNat : Int) := by rw [wI64 (by omega) (by omega), wU8 (by omega) (by omega)]; omega
  have w2 : IntKind.u8.wrap (IntKind.i64.wrap (48 + (m2 : Int))) = (d2.toNat : Int) := by rw [wI64 (by omega) (by omega), wU8 (by omega) (by omega)]; omega
  have hLn : lineB c mode size name = ([c, d1, d2, 32] ++ dg size) ++ [32] ++ name ++ [10] := by unfold lineB; rw [← hd1, ← hd2]; simp
  have k1 : Own O _ (ob 5 (.slice (some ⟨h.next, 0, none⟩) 4 4) [c, d1, d2, 32] :: R) := (k.push (.row [.int .u8 c.toNat, .int .u8 d1.toNat, .int .u8 d2.toNat, .int .u8 32] 5 1 true false)).row_any (n := 4) rfl
  (repeat' first
    | refine AWP.seq ?_
    | refine AWP.block ?_
    | (refine AWP.skip ?_; try dsimp only [thn, inBlk])
    | (refine AWP.exit ?_; try simp only [thn, inBlk, if_true, reduceIte, Nat.reduceEqDiff])
    | (refine AWP.ret ?_; try dsimp only [thn, inBlk])
    | (refine AWP.condT ?_ ?_; (focus (simp [go_sem, q1, q2, w1, w2]; done)))
    | (refine AWP.condF ?_ ?_; (focus (simp [go_sem, q1, q2, w1, w2]; done)))
    | (apply AWP.rE; (focus (simp [go_sem, q1, q2, w1, w2]; exact ⟨rfl, rfl⟩)); try dsimp only [thn, inBlk])
    | fail)
  refine AWP.callE (by simp [go_sem]; exact ⟨rfl, rfl, rfl, rfl, rfl⟩) (by kernel_rfl) ?_
  refine (appi_calls g k1 hs (by simp)).mono ?_
  rintro r h2 ⟨a2, n2, rfl, k2⟩
  obtain ⟨a3, n3, h3, e3, k3⟩ := Own.appB1 (P := Tryz.prog) (t := 32) (xt := 32) (c := 32) Tryz.underlying32 tsz5 tby5 tz5 nI32 k2 rfl (by simp; omega)
  have hl3 : ([c, d1, d2, 32] ++ dg size).length = 4 + (dg size).length := by simp; omega
  rw [hl3] at k3 e3
  have e3' : appendW Tryz.prog (h2.push (.row [.int .u8 32] 5 1 true false)) 32 32 (.slice a2 (4 + (dg size).length) n2) (.slice (some ⟨h2.next, 0, none⟩) 1 1) = some (.slice a3 (4 + (dg size).length + 1) n3, h3) := e3
  obtain ⟨a4, n4, h4, e4, k4⟩ := Own.appB (P := Tryz.prog) (t := 32) (xt := 9) (xv := tx name) (xs := name) Tryz.underlying32 tsz5 tby5 tz5 nI9 k3 rfl (by simp; omega)
  have hl4 : ([c, d1, d2, 32] ++ dg size ++ [32]).length = 4 + (dg size).length + 1 := by simp; omega
  rw [hl4] at e4 k4
  obtain ⟨a5, n5, h5, e5, k5⟩ := Own.appB1 (P := Tryz.prog) (t := 32) (xt := 32) (c := 10) Tryz.underlying32 tsz5 tby5 tz5 nI32 k4 rfl (by simp; omega)
  have hl5 : ([c, d1, d2, 32] ++ dg size ++ [32] ++ name).length = 4 + (dg size).length + 1 + name.length := by simp; omega
  rw [hl5] at e5 k5
  have e5' : appendW Tryz.prog (h4.push (.row [.int .u8 10] 5 1 true false)) 32 32 (.slice a4 (4 + (dg size).length + 1 + name.length) n4) (.slice (some ⟨h4.next, 0, none⟩) 1 1) = some (.slice a5 (4 + (dg size).length + 1 + name.length + 1) n5, h5) := e5
  have hlL : (lineB c mode size name).length = 4 + (dg size).length + 1 + name.length + 1 := by rw [hLn]; simp; omega
  rw [hlL, hLn]
  refine awpL_restE (by simp [go_sem]; exact ⟨rfl, rfl⟩) ?_; try dsimp only [thn, inBlk]
  (repeat' first
    | refine AWP.seq ?_
    | refine AWP.block ?_
    | (refine AWP.skip ?_; try dsimp only [thn, inBlk])
    | (refine AWP.exit ?_; try simp only [thn, inBlk, if_true, reduceIte, Nat.reduceEqDiff])
    | (refine AWP.ret ?_; try dsimp only [thn, inBlk])
    | (refine AWP.condT ?_ ?_; (focus (simp [go_sem, e3', e4, e5']; done)))
    | (refine AWP.condF ?_ ?_; (focus (simp [go_sem, e3', e4, e5']; done)))
    | (apply AWP.rE; (focus (simp [go_sem, e3', e4, e5']; exact ⟨rfl, rfl⟩)); try dsimp only [thn, inBlk])
    | fail)
  simp [bodyQ, thn, inBlk, resA, resV, go_sem]
  exact ⟨_, _, ⟨rfl, rfl⟩, by simpa using k5⟩
end
end L23
end

section
open Go Ab Go.Proofs
namespace L23
set_option autoImplicit false
set_option linter.unusedSimpArgs false
set_option linter.unusedVariables false
section
variable {O : Old} {h : AHeap} {R : List Chunk}
/-! ### A path's piece more -/
theorem hs_calls {l : List UInt8} (hl : l.length ≤ 1000000) : ACalls Tryz.prog 107 #[tx l, .string ⟨#[47]⟩] h fun r h' => r = .bool (l.drop (l.length - 1) == [47]) ∧ h' = h := by
  refine ACalls.of_awp (args := [tx l, .string ⟨#[47]⟩]) (n := 21) Tryz.func107 rfl rfl (by show 2 ≤ 21; omega) ?_
  by_cases h1 : l.length = 0
  · have e : l = [] := List.eq_nil_of_length_eq_zero h1
    subst e
    (repeat' first
      | refine AWP.seq ?_
      | refine AWP.block ?_
      | (refine AWP.skip ?_; try dsimp only [thn, inBlk])
      | (refine AWP.exit ?_; try simp only [thn, inBlk, if_true, reduceIte, Nat.reduceEqDiff])
      | (refine AWP.ret ?_; try dsimp only [thn, inBlk])
      | (refine AWP.condT ?_ ?_; (focus (simp [go_sem]; done)))
      | (refine AWP.condF ?_ ?_; (focus (simp [go_sem]; done)))
      | (apply AWP.rE; (focus (simp [go_sem]; exact ⟨rfl, rfl⟩)); try dsimp only [thn, inBlk])
      | fail)
    simp [bodyQ, thn, inBlk, resA, resV, go_sem]
  · have h1' : (1 : Int) ≤ l.length := by omega
    have w1 : IntKind.i64.wrap ((l.length : Int) - 1) = ((l.length - 1 : Nat) : Int) := by rw [wI64 (by omega) (by omega)]; omega
    have s1 : sliceR Tryz.prog h 9 (tx l) (some (.int .i64 ((l.length - 1 : Nat) : Int))) none none = some (tx (l.drop (l.length - 1))) := by
      have := str_slice (P := Tryz.prog) (h := h) Tryz.underlying9 (l := l) (lo := l.length - 1) (hi := l.length) (a := some (.int .i64 ((l.length - 1 : Nat) : Int))) (u := none) (by omega) (Nat.le_refl _) (.inr ⟨_, rfl⟩) (.inl ⟨rfl, rfl⟩)
      rw [List.take_length] at this; exact this
    have e1 : strA .eql ⟨(l.drop (l.length - 1)).toArray⟩ ⟨#[47]⟩ = some (.bool (l.drop (l.length - 1) == [47])) := strA_eql _ [47]
    generalize l.drop (l.length - 1) = d at *
    generalize l.length - 1 = q at *
    (repeat' first
      | refine AWP.seq ?_
      | refine AWP.block ?_
      | (refine AWP.skip ?_; try dsimp only [thn, inBlk])
      | (refine AWP.exit ?_; try simp only [thn, inBlk, if_true, reduceIte, Nat.reduceEqDiff])
      | (refine AWP.ret ?_; try dsimp only [thn, inBlk])
      | (refine AWP.condT ?_ ?_; (focus (simp [go_sem, h1', w1, s1, e1]; done)))
      | (refine AWP.condF ?_ ?_; (focus (simp [go_sem, h1', w1, s1, e1]; done)))
      | (apply AWP.rE; (focus (simp [go_sem, h1', w1, s1, e1]; exact ⟨rfl, rfl⟩)); try dsimp only [thn, inBlk])
      | fail)
    simp [bodyQ, thn, inBlk, resA, resV, go_sem]
theorem trim_calls {l : List UInt8} (hl : l.length ≤ 1000000) : ACalls Tryz.prog 68 #[tx l, .string ⟨#[47]⟩] h fun r h' => r = tx (trimS l) ∧ h' = h := by
  refine ACalls.of_awp (args := [tx l, .string ⟨#[47]⟩]) (n := 8) Tryz.func68 rfl rfl (by show 2 ≤ 8; omega) ?_
  (repeat' first
    | refine AWP.seq ?_
    | refine AWP.block ?_
    | (refine AWP.skip ?_; try dsimp only [thn, inBlk])
    | (refine AWP.exit ?_; try simp only [thn, inBlk, if_true, reduceIte, Nat.reduceEqDiff])
    | (refine AWP.ret ?_; try dsimp only [thn, inBlk])
    | (refine AWP.condT ?_ ?_; (focus (simp [go_sem]; done)))
    | (refine AWP.condF ?_ ?_; (focus (simp [go_sem]; done)))
    | (apply AWP.rE; (focus (simp [go_sem]; exact ⟨rfl, rfl⟩)); try dsimp only [thn, inBlk])
    | fail)
  refine AWP.callE (by simp [go_sem]; exact ⟨rfl, rfl, rfl, rfl, rfl⟩) (by kernel_rfl) ?_
  refine ACalls.mono (Q := fun r h' => r = tx (trimS l) ∧ h' = h) ?_ ?_
  · refine ACalls.of_awp (args := [tx l, .string ⟨#[47]⟩]) (n := 16) Tryz.func87 rfl rfl (by show 2 ≤ 16; omega) ?_
    (repeat' first
      | refine AWP.seq ?_
      | refine AWP.block ?_
      | (refine AWP.skip ?_; try dsimp only [thn, inBlk])
      | (refine AWP.exit ?_; try simp only [thn, inBlk, if_true, reduceIte, Nat.reduceEqDiff])
      | (refine AWP.ret ?_; try dsimp only [thn, inBlk])
      | (refine AWP.condT ?_ ?_; (focus (simp [go_sem]; done)))
      | (refine AWP.condF ?_ ?_; (focus (simp [go_sem]; done)))
      | (apply AWP.rE; (focus (simp [go_sem]; exact ⟨rfl, rfl⟩)); try dsimp only [thn, inBlk])
      | fail)
    refine AWP.callE (by simp [go_sem]; exact ⟨rfl, rfl, rfl, rfl, rfl⟩) (by kernel_rfl) ?_
    refine (hs_calls hl).mono ?_
    rintro r h2 ⟨rfl, rfl⟩
    by_cases hd : l.drop (l.length - 1) = [47]
    · have hd' : (l.drop (l.length - 1) == [47]) = true := by simpa using hd
      have h1 : 1 ≤ l.length := by
        by_cases h0 : l.length = 0
        · rw [List.eq_nil_of_length_eq_zero h0] at hd; simp at hd
        · omega
      have w1 : IntKind.i64.wrap ((l.length : Int) - 1) = ((l.length - 1 : Nat) : Int) := by rw [wI64 (by omega) (by omega)]; omega
      have s1 : sliceR Tryz.prog h2 9 (tx l) none (some (.int .i64 ((l.length - 1 : Nat) : Int))) none = some (tx (l.take (l.length - 1))) := by
        have := str_slice (P := Tryz.prog) (h := h2) Tryz.underlying9 (l := l) (lo := 0) (hi := l.length - 1) (a := none) (u := some (.int .i64 ((l.length - 1 : Nat) : Int))) (by omega) (by omega) (.inl ⟨rfl, rfl⟩) (.inr ⟨_, rfl⟩)
        rw [List.drop_zero] at this; exact this
      have e : trimS l = l.take (l.length - 1) := by unfold trimS; rw [if_pos hd]
      rw [hd', e]
      generalize l.take (l.length - 1) = d at *
      generalize l.length - 1 = q at *
      refine awpL_restE (by simp [go_sem]; exact ⟨rfl, rfl⟩) ?_; try dsimp only [thn, inBlk]
      (repeat' first
        | refine AWP.seq ?_
        | refine AWP.block ?_
        | (refine AWP.skip ?_; try dsimp only [thn, inBlk])
        | (refine AWP.exit ?_; try simp only [thn, inBlk, if_true, reduceIte, Nat.reduceEqDiff])
        | (refine AWP.ret ?_; try dsimp only [thn, inBlk])
        | (refine AWP.condT ?_ ?_; (focus (simp [go_sem, w1, s1]; done)))
        | (refine AWP.condF ?_ ?_; (focus (simp [go_sem, w1, s1]; done)))
        | (apply AWP.rE; (focus (simp [go_sem, w1, s1]; exact ⟨rfl, rfl⟩)); try dsimp only [thn, inBlk])
        | fail)
      simp [bodyQ, thn, inBlk, resA, resV, go_sem]
    · have hd' : (l.drop (l.length - 1) == [47]) = false := by simpa using hd
      have e : trimS l = l := by unfold trimS; rw [if_neg hd]
      rw [hd', e]
      refine awpL_restE (by simp [go_sem]; exact ⟨rfl, rfl⟩) ?_; try dsimp only [thn, inBlk]
      (repeat' first
        | refine AWP.seq ?_
        | refine AWP.block ?_
        | (refine AWP.skip ?_; try dsimp only [thn, inBlk])
        | (refine AWP.exit ?_; try simp only [thn, inBlk, if_true, reduceIte, Nat.reduceEqDiff])
        | (refine AWP.ret ?_; try dsimp only [thn, inBlk])
        | (refine AWP.condT ?_ ?_; (focus (simp [go_sem]; done)))
        | (refine AWP.condF ?_ ?_; (focus (simp [go_sem]; done)))
        | (apply AWP.rE; (focus (simp [go_sem]; exact ⟨rfl, rfl⟩)); try dsimp only [thn, inBlk])
        | fail)
      simp [bodyQ, thn, inBlk, resA, resV, go_sem]
  rintro r h2 ⟨rfl, rfl⟩
  refine awpL_restE (by simp [go_sem]; exact ⟨rfl, rfl⟩) ?_; try dsimp only [thn, inBlk]
  (repeat' first
    | refine AWP.seq ?_
    | refine AWP.block ?_
    | (refine AWP.skip ?_; try dsimp only [thn, inBlk])
    | (refine AWP.exit ?_; try simp only [thn, inBlk, if_true, reduceIte, Nat.reduceEqDiff])
    | (refine AWP.ret ?_; try dsimp only [thn, inBlk])
    | (refine AWP.condT ?_ ?_; (focus (simp [go_sem]; done)))
    | (refine AWP.condF ?_ ?_; (focus (simp [go_sem]; done)))
    | (apply AWP.rE; (focus (simp [go_sem]; exact ⟨rfl, rfl⟩)); try dsimp only [thn, inBlk])
    | fail)
  simp [bodyQ, thn, inBlk, resA, resV, go_sem]
theorem trimS_len (d : List UInt8) : (trimS d).length ≤ d.length := by
  unfold trimS; split
  · rw [List.length_take]; omega
  · exact Nat.le_refl _
theorem join_calls {d x : List UInt8} (hd : d.length ≤ 1000000) (hx : x.length ≤ 1000000) : ACalls Tryz.prog 48 #[tx d, tx x] h fun r h' => r = tx (joinB d x) ∧ h' = h := by
  refine ACalls.of_awp (args := [tx d, tx x]) (n := 10) Tryz.func48 rfl rfl (by show 2 ≤ 10; omega) ?_
  have hl := trimS_len d
  (repeat' first
    | refine AWP.seq ?_
    | refine AWP.block ?_
    | (refine AWP.skip ?_; try dsimp only [thn, inBlk])
    | (refine AWP.exit ?_; try simp only [thn, inBlk, if_true, reduceIte, Nat.reduceEqDiff])
    | (refine AWP.ret ?_; try dsimp only [thn, inBlk])
    | (refine AWP.condT ?_ ?_; (focus (simp [go_sem]; done)))
    | (refine AWP.condF ?_ ?_; (focus (simp [go_sem]; done)))
    | (apply AWP.rE; (focus (simp [go_sem]; exact ⟨rfl, rfl⟩)); try dsimp only [thn, inBlk])
    | fail)
  refine AWP.callE (by simp [go_sem]; exact ⟨rfl, rfl, rfl, rfl, rfl⟩) (by kernel_rfl) ?_
  refine (trim_calls hd).mono ?_
  rintro r h2 ⟨rfl, rfl⟩
  unfold joinB
  generalize trimS d = t at *
  have f1 : t.length + 1 ≤ 9223372036854775807 := by omega
  have f2 : t.length + 1 + x.length ≤ 9223372036854775807 := by omega
  have f3 : t.length + (x.length + 1) ≤ 9223372036854775807 := by omega
  refine awpL_restE (by simp [go_sem, f1, f2, f3]; exact ⟨rfl, rfl⟩) ?_; try dsimp only [thn, inBlk]
  (repeat' first
    | refine AWP.seq ?_
    | refine AWP.block ?_
    | (refine AWP.skip ?_; try dsimp only [thn, inBlk])
    | (refine AWP.exit ?_; try simp only [thn, inBlk, if_true, reduceIte, Nat.reduceEqDiff])
    | (refine AWP.ret ?_; try dsimp only [thn, inBlk])
    | (refine AWP.condT ?_ ?_; (focus (simp [go_sem]; done)))
    | (refine AWP.condF ?_ ?_; (focus (simp [go_sem]; done)))
    | (apply AWP.rE; (focus (simp [go_sem]; exact ⟨rfl, rfl⟩)); try dsimp only [thn, inBlk])
    | fail)
  simp [bodyQ, thn, inBlk, resA, resV, go_sem]
/-! ### The document's -/
theorem dg_step {q : Nat} (h0 : 10 ≤ q) (h1 : q ≤ 1000) : dg q = dg (q / 10) ++ [dgt (q % 10)] := by
  have key : ∀ q : Fin 1001, 10 ≤ q.val → dg q.val = dg (q.val / 10) ++ [dgt (q.val % 10)] := by decide +kernel
  exact key ⟨q, by omega⟩ h0
theorem digits_calls {n : Nat} (k : Own O h R) (hn : n ≤ 1000) : ACalls Tryz.prog 69 #[.int .i64 n] h fun r h' => r = tx (dg n) ∧ Own O h' R := by
  refine ACalls.of_awp (args := [.int .i64 n]) (n := 26) Tryz.func69 rfl rfl (by show 1 ≤ 26; omega) ?_
  by_cases h1 : n < 10
  · have h1' : (n : Int) < 10 := by omega
    have e : dg n = [dgt n] := by unfold dg; rw [if_pos h1]
    obtain ⟨d, hd⟩ : ∃ d, d = dgt n := ⟨_, rfl⟩
    have n1 : d.toNat = 48 + n := by
      rw [hd]; show (UInt8.ofNat (48 + n)).toNat = 48 + n
      rw [UInt8.toNat_ofNat']; omega
    have w1 : IntKind.u8.wrap (IntKind.i64.wrap (48 + (n : Int))) = (d.toNat : Int) := by rw [wI64 (by omega) (by omega), wU8 (by omega) (by omega)]; omega
    have k1 : Own O _ (ob 5 (.slice (some ⟨h.next, 0, none⟩) 1 1) [d] :: R) := (k.push (.row [.int .u8 d.toNat] 5 1 true false)).row_any (n := 1) rfl
    have s1 := k1.ob_bytes.str (P := Tryz.prog) (t := 32) (e := 5) (u := 9) Tryz.underlying32 Tryz.underlying5 Tryz.underlying9
    rw [e, ← hd]
    (repeat' first
      | refine AWP.seq ?_
      | refine AWP.block ?_
      | (refine AWP.skip ?_; try dsimp only [thn, inBlk])
      | (refine AWP.exit ?_; try simp only [thn, inBlk, if_true, reduceIte, Nat.reduceEqDiff])
      | (refine AWP.ret ?_; try dsimp only [thn, inBlk])
      | (refine AWP.condT ?_ ?_; (focus (simp [go_sem, h1', w1, s1]; done)))
      | (refine AWP.condF ?_ ?_; (focus (simp [go_sem, h1', w1, s1]; done)))
      | (apply AWP.rE; (focus (simp [go_sem, h1', w1, s1]; exact ⟨rfl, rfl⟩)); try dsimp only [thn, inBlk])
      | fail)
    simp [bodyQ, thn, inBlk, resA, resV, go_sem]
    exact k1.tail
  have h1' : ¬ (n : Int) < 10 := by omega
  have w10 : ∀ {q : Nat}, q ≤ 1000 → IntKind.u8.wrap (IntKind.i64.wrap (48 + ((q % 10 : Nat) : Int))) = ((dgt (q % 10)).toNat : Int) := fun {q} hq => by
    have n1 : (dgt (q % 10)).toNat = 48 + q % 10 := by
      show (UInt8.ofNat (48 + q % 10)).toNat = 48 + q % 10
      rw [UInt8.toNat_ofNat']; omega
    rw [wI64 (by omega) (by omega), wU8 (by omega) (by omega)]; omega
  (repeat' first
    | refine AWP.seq ?_
    | refine AWP.block ?_
    | (refine AWP.skip ?_; try dsimp only [thn, inBlk])
    | (refine AWP.exit ?_; try simp only [thn, inBlk, if_true, reduceIte, Nat.reduceEqDiff])
    | (refine AWP.ret ?_; try dsimp only [thn, inBlk])
    | (refine AWP.condT ?_ ?_; (focus (simp [go_sem, h1']; done)))
    | (refine AWP.condF ?_ ?_; (focus (simp [go_sem, h1']; done)))
    | (apply AWP.rE; (focus (simp [go_sem, h1']; exact ⟨rfl, rfl⟩)); try dsimp only [thn, inBlk])
    | fail)
  refine AWP.loopR [3, 4] (fun m s h' => ∃ (q : Nat) (out : List UInt8), q ≤ 1000 ∧ m = q ∧ out.length ≤ 10 ∧ (q = 0 → out = dg n) ∧ (0 < q → dg q ++ out = dg n) ∧ s = ⟨26, [(3, tx out), (4, .int .i64 q)]⟩ ∧ Own O h' R) ?_ ?_
  · exact ⟨_, n, [], hn, rfl, by simp, by omega, by simp, by simp [go_sem], k⟩
  rintro q s h' ⟨_, out, hq, rfl, hol, he1, he2, rfl, kA⟩
  by_cases h0 : q = 0
  · subst h0
    rw [← he1 rfl]
    (repeat' first
      | refine AWP.seq ?_
      | refine AWP.block ?_
      | (refine AWP.skip ?_; try dsimp only [thn, inBlk])
      | (refine AWP.exit ?_; try simp only [thn, inBlk, if_true, reduceIte, Nat.reduceEqDiff])
      | (refine AWP.ret ?_; try dsimp only [thn, inBlk])
      | (refine AWP.condT ?_ ?_; (focus (simp [go_sem]; done)))
      | (refine AWP.condF ?_ ?_; (focus (simp [go_sem]; done)))
      | (apply AWP.rE; (focus (simp [go_sem]; exact ⟨rfl, rfl⟩)); try dsimp only [thn, inBlk])
      | fail)
    simp [bodyQ, thn, inBlk, resA, resV, go_sem]
    exact kA
  have h0' : (0 : Int) < q := by omega
  have hlen := congrArg List.length (he2 (by omega))
  rw [List.length_append] at hlen
  have hl4 := (dg_len n).1
  have hl1 := (dg_len q).2
  obtain ⟨r, hr⟩ : ∃ r, r = q % 10 := ⟨_, rfl⟩
  obtain ⟨q2, hq2⟩ : ∃ r, r = q / 10 := ⟨_, rfl⟩
  obtain ⟨d, hd⟩ : ∃ d, d = dgt r := ⟨_, rfl⟩
  have n1 : d.toNat = 48 + r := by
    rw [hd]; show (UInt8.ofNat (48 + r)).toNat = 48 + r
    rw [UInt8.toNat_ofNat']; omega
  have t1 : (q : Int).tmod 10 = (r : Int) := by rw [Int.tmod_eq_emod_of_nonneg (by omega)]; omega
  have t2 : IntKind.i64.wrap ((q : Int) / 10) = (q2 : Int) := by rw [wI64 (by omega) (by omega)]; omega
  have w1 : IntKind.u8.wrap (IntKind.i64.wrap (48 + (r : Int))) = (d.toNat : Int) := by rw [wI64 (by omega) (by omega), wU8 (by omega) (by omega)]; omega
  have k1 : Own O _ (ob 5 (.slice (some ⟨h'.next, 0, none⟩) 1 1) [d] :: R) := (kA.push (.row [.int .u8 d.toNat] 5 1 true false)).row_any (n := 1) rfl
  have s1 := k1.ob_bytes.str (P := Tryz.prog) (t := 32) (e := 5) (u := 9) Tryz.underlying32 Tryz.underlying5 Tryz.underlying9
  have f1 : 1 + out.length ≤ 9223372036854775807 := by omega
  have f2 : out.length + 1 ≤ 9223372036854775807 := by omega
  have h0n : 0 < q := by omega
  (repeat' first
    | refine AWP.seq ?_
    | refine AWP.block ?_
    | (refine AWP.skip ?_; try dsimp only [thn, inBlk])
    | (refine AWP.exit ?_; try simp only [thn, inBlk, if_true, reduceIte, Nat.reduceEqDiff])
    | (refine AWP.ret ?_; try dsimp only [thn, inBlk])
    | (refine AWP.condT ?_ ?_; (focus (simp [go_sem, h0', h0n, t1, t2, w1, s1, f1, f2]; done)))
    | (refine AWP.condF ?_ ?_; (focus (simp [go_sem, h0', h0n, t1, t2, w1, s1, f1, f2]; done)))
    | (apply AWP.rE; (focus (simp [go_sem, h0', h0n, t1, t2, w1, s1, f1, f2]; exact ⟨rfl, rfl⟩)); try dsimp only [thn, inBlk])
    | fail)
  refine ⟨q2, by omega, q2, d :: out, by omega, rfl, by simp; omega, fun e => ?_, fun e => ?_, by simp [go_sem], k1.tail⟩
  · have hs : q < 10 := by omega
    have e2 := he2 (by omega)
    have e3 : dg q = [dgt q] := by unfold dg; rw [if_pos hs]
    rw [e3] at e2
    rw [hd, hr, Nat.mod_eq_of_lt hs]; exact e2
  · have hs : 10 ≤ q := by omega
    have e2 := he2 (by omega)
    rw [dg_step hs hq, ← hq2, ← hr, ← hd] at e2
    simpa using e2
/-- A line's head. -/
theorem head_calls {c : UInt8} {mode size : Nat} {name : List UInt8} (k : Own O h R) (hm : mode ≤ 63) (hs : size ≤ 1000) (hl : name.length ≤ 1000000) : ACalls Tryz.prog 51 #[.string ⟨#[c]⟩, .int .i64 mode, .int .i64 size, tx name] h fun r h' => r = tx (lineB c mode size name) ∧ Own O h' R := by
  refine ACalls.of_awp (args := [.string ⟨#[c]⟩, .int .i64 mode, .int .i64 size, tx name]) (n := 26) Tryz.func51 rfl rfl (by show 4 ≤ 26; omega) ?_
  obtain ⟨m1, hm1⟩ : ∃ m, m = mode / 8 := ⟨_, rfl⟩
  obtain ⟨m2, hm2⟩ : ∃ m, m = mode % 8 := ⟨_, rfl⟩
  have q1 : IntKind.i64.wrap ((mode : Int) / 8) = (m1 : Int) := by rw [wI64 (by omega) (by omega)]; omega
  have q2 : (mode : Int).tmod 8 = (m2 : Int) := by rw [Int.tmod_eq_emod_of_nonneg (by omega)]; omega
  have g1 : dg m1 = [dgt m1] := by unfold dg; rw [if_pos (by omega)]
  have g2 : dg m2 = [dgt m2] := by unfold dg; rw [if_pos (by omega)]
  have hdl := (dg_len size).1
  (repeat' first
    | refine AWP.seq ?_
    | refine AWP.block ?_
    | (refine AWP.skip ?_; try dsimp only [thn, inBlk])
    | (refine AWP.exit ?_; try simp only [thn, inBlk, if_true, reduceIte, Nat.reduceEqDiff])
    | (refine AWP.ret ?_; try dsimp only [thn, inBlk])
    | (refine AWP.condT ?_ ?_; (focus (simp [go_sem]; done)))
    | (refine AWP.condF ?_ ?_; (focus (simp [go_sem]; done)))
    | (apply AWP.rE; (focus (simp [go_sem]; exact ⟨rfl, rfl⟩)); try dsimp only [thn, inBlk])
    | fail)
  refine AWP.callE (by simp [go_sem, q1]; exact ⟨rfl, rfl, rfl, rfl, rfl⟩) (by kernel_rfl) ?_
  refine (digits_calls k (n := m1) (by omega)).mono ?_
  rintro r h1 ⟨rfl, k1⟩
  rw [g1]
  refine awpL_toCall (by simp [go_sem, q2]; exact ⟨rfl, rfl, rfl, rfl, rfl⟩) (by kernel_rfl) ?_
  refine (digits_calls k1 (n := m2) (by omega)).mono ?_
  rintro r h2 ⟨rfl, k2⟩
  rw [g2]
  refine awpL_toCall (by simp [go_sem]; exact ⟨rfl, rfl, rfl, rfl, rfl⟩) (by kernel_rfl) ?_
  refine (digits_calls k2 (n := size) hs).mono ?_
  rintro r h3 ⟨rfl, k3⟩
  unfold lineB
  rw [← hm1, ← hm2]
  generalize dg size = ds at *
  generalize hd1 : dgt m1 = d1 at *
  generalize hd2 : dgt m2 = d2 at *
  have f1 : 4 + ds.length ≤ 9223372036854775807 := by omega
  have f2 : ds.length ≤ 9223372036854775802 := by omega
  have f3 : ds.length + 1 + 1 + 1 + 1 + 1 + name.length ≤ 9223372036854775807 := by omega
  have f4 : ds.length + (name.length + 1) ≤ 9223372036854775802 := by omega
  refine awpL_restE (by simp [go_sem, f1, f2, f3, f4]; exact ⟨rfl, rfl⟩) ?_; try dsimp only [thn, inBlk]
  (repeat' first
    | refine AWP.seq ?_
    | refine AWP.block ?_
    | (refine AWP.skip ?_; try dsimp only [thn, inBlk])
    | (refine AWP.exit ?_; try simp only [thn, inBlk, if_true, reduceIte, Nat.reduceEqDiff])
    | (refine AWP.ret ?_; try dsimp only [thn, inBlk])
    | (refine AWP.condT ?_ ?_; (focus (simp [go_sem]; done)))
    | (refine AWP.condF ?_ ?_; (focus (simp [go_sem]; done)))
    | (apply AWP.rE; (focus (simp [go_sem]; exact ⟨rfl, rfl⟩)); try dsimp only [thn, inBlk])
    | fail)
  simp [bodyQ, thn, inBlk, resA, resV, go_sem]
  exact ⟨⟨by rw [← hd1]; simp [dgt], by rw [← hd2]; simp [dgt]⟩, k3⟩
/-- A path's last name. -/
def lastB (p : List UInt8) : List UInt8 := if par p = [47] then p.drop 1 else p.drop ((par p).length + 1)
theorem last_path {p : List UInt8} (hpb : pathB p = true) (h1 : p ≠ [47]) : lastB p = base p := by
  unfold lastB
  by_cases hp : par p = [47]
  · rw [if_pos hp, base_top hpb hp h1]
  · rw [if_neg hp, (base_sub (pathB_head hpb) hp).2]
theorem par_len (p : List UInt8) : (par p).length ≤ p.length + 1 := by
  unfold par; split
  · rw [List.length_take]; omega
  · simp
theorem last_calls {p : List UInt8} (hpb : pathB p = true) (h1 : p ≠ [47]) (hl : p.length ≤ 100000) : ACalls Tryz.prog 52 #[tx p] h fun r h' => r = tx (base p) ∧ h' = h := by
  refine ACalls.of_awp (args := [tx p]) (n := 15) Tryz.func52 rfl rfl (by show 1 ≤ 15; omega) ?_
  (repeat' first
    | refine AWP.seq ?_
    | refine AWP.block ?_
    | (refine AWP.skip ?_; try dsimp only [thn, inBlk])
    | (refine AWP.exit ?_; try simp only [thn, inBlk, if_true, reduceIte, Nat.reduceEqDiff])
    | (refine AWP.ret ?_; try dsimp only [thn, inBlk])
    | (refine AWP.condT ?_ ?_; (focus (simp [go_sem]; done)))
    | (refine AWP.condF ?_ ?_; (focus (simp [go_sem]; done)))
    | (apply AWP.rE; (focus (simp [go_sem]; exact ⟨rfl, rfl⟩)); try dsimp only [thn, inBlk])
    | fail)
  refine AWP.callE (by simp [go_sem]; exact ⟨rfl, rfl, rfl, rfl, rfl⟩) (by kernel_rfl) ?_
  refine (rpar_calls (l := p) (by omega)).mono ?_
  rintro r h2 ⟨rfl, rfl⟩
  have hpl := par_len p
  have e1 : strA .eql ⟨(par p).toArray⟩ ⟨#[47]⟩ = some (.bool (par p == [47])) := strA_eql _ [47]
  have h1l : 1 ≤ p.length := by
    cases p with
    | nil => exact absurd (pathB_head hpb) (by simp)
    | cons a t => simp
  by_cases hp : par p = [47]
  · have hp' : (par p == [47]) = true := by simpa using hp
    rw [hp'] at e1
    have s1 : sliceR Tryz.prog h2 9 (tx p) (some (.int .i64 1)) none none = some (tx (p.drop 1)) := by
      have := str_slice (P := Tryz.prog) (h := h2) Tryz.underlying9 (l := p) (lo := 1) (hi := p.length) (a := some (.int .i64 1)) (u := none) h1l (Nat.le_refl _) (.inr ⟨_, rfl⟩) (.inl ⟨rfl, rfl⟩)
      rw [List.take_length] at this; exact this
    rw [base_top hpb hp h1]
    generalize p.drop 1 = d at *
    generalize par p = pp at *
    refine awpL_restE (by simp [go_sem]; exact ⟨rfl, rfl⟩) ?_; try dsimp only [thn, inBlk]
    (repeat' first
      | refine AWP.seq ?_
      | refine AWP.block ?_
      | (refine AWP.skip ?_; try dsimp only [thn, inBlk])
      | (refine AWP.exit ?_; try simp only [thn, inBlk, if_true, reduceIte, Nat.reduceEqDiff])
      | (refine AWP.ret ?_; try dsimp only [thn, inBlk])
      | (refine AWP.condT ?_ ?_; (focus (simp [go_sem, e1, s1]; done)))
      | (refine AWP.condF ?_ ?_; (focus (simp [go_sem, e1, s1]; done)))
      | (apply AWP.rE; (focus (simp [go_sem, e1, s1]; exact ⟨rfl, rfl⟩)); try dsimp only [thn, inBlk])
      | fail)
    simp [bodyQ, thn, inBlk, resA, resV, go_sem]
  · have hp' : (par p == [47]) = false := by simpa using hp
    rw [hp'] at e1
    obtain ⟨b1, b2⟩ := base_sub (pathB_head hpb) hp
    have w1 : IntKind.i64.wrap (((par p).length : Int) + 1) = (((par p).length + 1 : Nat) : Int) := by rw [wI64 (by omega) (by omega)]; omega
    have s1 : sliceR Tryz.prog h2 9 (tx p) (some (.int .i64 (((par p).length + 1 : Nat) : Int))) none none = some (tx (p.drop ((par p).length + 1))) := by
      have := str_slice (P := Tryz.prog) (h := h2) Tryz.underlying9 (l := p) (lo := (par p).length + 1) (hi := p.length) (a := some (.int .i64 (((par p).length + 1 : Nat) : Int))) (u := none) b1 (Nat.le_refl _) (.inr ⟨_, rfl⟩) (.inl ⟨rfl, rfl⟩)
      rw [List.take_length] at this; exact this
    rw [b2]
    rw [← w1] at s1
    generalize p.drop ((par p).length + 1) = d at *
    generalize par p = pp at *
    refine awpL_restE (by simp [go_sem]; exact ⟨rfl, rfl⟩) ?_; try dsimp only [thn, inBlk]
    (repeat' first
      | refine AWP.seq ?_
      | refine AWP.block ?_
      | (refine AWP.skip ?_; try dsimp only [thn, inBlk])
      | (refine AWP.exit ?_; try simp only [thn, inBlk, if_true, reduceIte, Nat.reduceEqDiff])
      | (refine AWP.ret ?_; try dsimp only [thn, inBlk])
      | (refine AWP.condT ?_ ?_; (focus (simp [go_sem, e1, s1]; done)))
      | (refine AWP.condF ?_ ?_; (focus (simp [go_sem, e1, s1]; done)))
      | (apply AWP.rE; (focus (simp [go_sem, e1, s1]; exact ⟨rfl, rfl⟩)); try dsimp only [thn, inBlk])
      | fail)
    simp [bodyQ, thn, inBlk, resA, resV, go_sem]
/-- A path with a name more. -/
theorem rjoin_calls {d x : List UInt8} (hpb : pathB d = true) (hd : d.length ≤ 1000000) (hx : x.length ≤ 1000000) : ACalls Tryz.prog 54 #[tx d, tx x] h fun r h' => r = tx (joinB d x) ∧ h' = h := by
  refine ACalls.of_awp (args := [tx d, tx x]) (n := 13) Tryz.func54 rfl rfl (by show 2 ≤ 13; omega) ?_
  have e1 : strA .eql ⟨d.toArray⟩ ⟨#[47]⟩ = some (.bool (d == [47])) := strA_eql _ [47]
  have f2 : d.length + 1 + x.length ≤ 9223372036854775807 := by omega
  have f1 : d.length + 1 ≤ 9223372036854775807 := by omega
  have f3 : d.length + (x.length + 1) ≤ 9223372036854775807 := by omega
  have f4 : 1 + x.length ≤ 9223372036854775807 := by omega
  have f5 : x.length + 1 ≤ 9223372036854775807 := by omega
  by_cases hp : d = [47]
  · subst hp
    rw [joinB_top]
    (repeat' first
      | refine AWP.seq ?_
      | refine AWP.block ?_
      | (refine AWP.skip ?_; try dsimp only [thn, inBlk])
      | (refine AWP.exit ?_; try simp only [thn, inBlk, if_true, reduceIte, Nat.reduceEqDiff])
      | (refine AWP.ret ?_; try dsimp only [thn, inBlk])
      | (refine AWP.condT ?_ ?_; (focus (simp [go_sem, f4, f5]; done)))
      | (refine AWP.condF ?_ ?_; (focus (simp [go_sem, f4, f5]; done)))
      | (apply AWP.rE; (focus (simp [go_sem, f4, f5]; exact ⟨rfl, rfl⟩)); try dsimp only [thn, inBlk])
      | fail)
    simp [bodyQ, thn, inBlk, resA, resV, go_sem]
  · have hp' : (d == [47]) = false := by simpa using hp
    rw [hp'] at e1
    rw [joinB_path hpb hp]
    clear hp'
    (repeat' first
      | refine AWP.seq ?_
      | refine AWP.block ?_
      | (refine AWP.skip ?_; try dsimp only [thn, inBlk])
      | (refine AWP.exit ?_; try simp only [thn, inBlk, if_true, reduceIte, Nat.reduceEqDiff])
      | (refine AWP.ret ?_; try dsimp only [thn, inBlk])
      | (refine AWP.condT ?_ ?_; (focus (simp [go_sem, hp, e1, f1, f2, f3]; done)))
      | (refine AWP.condF ?_ ?_; (focus (simp [go_sem, hp, e1, f1, f2, f3]; done)))
      | (apply AWP.rE; (focus (simp [go_sem, hp, e1, f1, f2, f3]; exact ⟨rfl, rfl⟩)); try dsimp only [thn, inBlk])
      | fail)
    simp [bodyQ, thn, inBlk, resA, resV, go_sem]
end
end L23
end

