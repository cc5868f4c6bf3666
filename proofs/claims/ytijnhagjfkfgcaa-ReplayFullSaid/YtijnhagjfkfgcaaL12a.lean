import Derived.Test.YtijnhagjfkfgcaaL12T
import Derived.Test.YtijnhagjfkfgcaaAbMaps
open Go Ab Go.Proofs
namespace L12
set_option autoImplicit false
set_option linter.unusedSimpArgs false
set_option linter.unusedVariables false

/-! ### Authenticators -/
structure Au where
  cl : List UInt8
  tm : Int
  no : Int
  ky : List UInt8

abbrev au (a : Au) : List Value := .string ⟨a.cl.toArray⟩ :: .int .i64 a.tm :: .int .u64 a.no :: a.ky.map B
abbrev auV (a : Au) : Value := .agg (au a).toArray
structure Au.Ok (a : Au) : Prop where
  cl : a.cl.length ≤ 1000
  tm : -9223372036854775808 ≤ a.tm ∧ a.tm ≤ 9223372036854775807
  no : 0 ≤ a.no ∧ a.no ≤ 18446744073709551615
  ky : a.ky.length = 16

theorem B_inj {x y : UInt8} (h : B x = B y) : x = y := by
  simp only [B, Value.int.injEq, true_and] at h
  exact UInt8.toNat_inj.1 (Int.ofNat.inj h)
theorem map_B_inj : ∀ {x y : List UInt8}, x.map B = y.map B → x = y
  | [], [], _ => rfl
  | a :: x, b :: y, h => by
    simp only [List.map_cons, List.cons.injEq] at h
    rw [B_inj h.1, map_B_inj h.2]
  | [], _ :: _, h => by simp at h
  | _ :: _, [], h => by simp at h
theorem auV_inj (a b : Au) (h : auV a = auV b) : a = b := by
  obtain ⟨c1, t1, n1, k1⟩ := a
  obtain ⟨c2, t2, n2, k2⟩ := b
  simp only [auV, au, Value.agg.injEq] at h
  have h := congrArg Array.toList h
  simp only [List.cons.injEq, Value.string.injEq, Value.int.injEq, true_and] at h
  obtain ⟨h1, h2, h3, h4⟩ := h
  have e1 : c1 = c2 := by
    have := congrArg (fun x : ByteArray => x.data.toList) h1
    simpa using this
  rw [e1, h2, h3, map_B_inj h4]

theorem keyLits_u8s {P : Program} {t e : TypeId} {n d : Nat} (ht : P.underlying t = some (.array n e)) (he : P.underlying e = some (.int .u8)) (ce : P.cellsOf e = 1) (ct : P.cellsOf t = n) (bs : List UInt8) (hb : bs.length = n) :
    ∃ L, P.keyLits (d + 2) t (bs.map B) = some L := by
  unfold Program.keyLits
  simp only [ht, ce, Nat.mul_one]
  rw [if_pos (by rw [ct, List.length_map, hb])]
  have key : ∀ (is : List Nat), (∀ i ∈ is, i < n) → ∃ L, is.mapM (fun i => P.keyLits (d + 1) e (((bs.map B).drop i).take 1)) = some L := by
    intro is
    induction is with
    | nil => exact fun _ => ⟨[], rfl⟩
    | cons i is ih =>
      intro h
      obtain ⟨L, hL⟩ := ih fun j hj => h j (by simp [hj])
      have hi : i < bs.length := by rw [hb]; exact h i (by simp)
      have e1 : ((bs.map B).drop i).take 1 = [B bs[i]] := by
        rw [List.drop_eq_getElem_cons (by simpa using hi)]
        simp
      have e2 : P.keyLits (d + 1) e [B bs[i]] = some [.int .u8 bs[i].toNat] := by
        unfold Program.keyLits
        simp only [he, B]
        rw [if_pos ⟨trivial, by simp [Lit.wf, IntKind.min, IntKind.max, IntKind.signed, IntKind.bits]; have := bs[i].toNat_lt; omega⟩]
      rw [List.mapM_cons, e1, e2, hL]
      exact ⟨_, rfl⟩
  obtain ⟨L, hL⟩ := key (List.range n) (fun i hi => List.mem_range.1 hi)
  rw [hL]
  exact ⟨_, rfl⟩

theorem au_length {a : Au} (h : a.Ok) : (au a).length = 19 := by simp [h.ky]
theorem au_lit (a : Au) (h : a.Ok) : ∃ l, keyOf Try.prog 35 (auV a) = some l := by
  have hk : Try.prog.keyType 35 = true := by kernel_rfl
  have c35 : Try.prog.cellsOf 35 = 19 := by kernel_rfl
  have c9 : Try.prog.cellsOf 9 = 1 := by kernel_rfl
  have c2 : Try.prog.cellsOf 2 = 1 := by kernel_rfl
  have c31 : Try.prog.cellsOf 31 = 1 := by kernel_rfl
  have c33 : Try.prog.cellsOf 33 = 16 := by kernel_rfl
  have c5 : Try.prog.cellsOf 5 = 1 := by kernel_rfl
  have hsz : ∃ m, Try.prog.types.size + 1 = m + 3 := ⟨Try.prog.types.size - 2, by have : 2 ≤ Try.prog.types.size := of_decide_eq_true (by kernel_rfl); omega⟩
  obtain ⟨m, hm⟩ := hsz
  have hl := au_length h
  obtain ⟨L, hL⟩ := keyLits_u8s (d := m) Try.underlying33 Try.underlying5 c5 c33 a.ky h.ky
  have hm' : maxLen = 9223372036854775807 := by decide
  have h1 := h.cl
  have h2 := h.tm
  have h3 := h.no
  unfold keyOf
  simp only [Try.underlying35, hk, Value.formed, c35, Value.cells, List.size_toArray, hl]
  rw [if_pos (by simp)]
  rw [hm]
  unfold Program.keyLits
  simp only [Try.underlying35, c35, hl, c9, c2, c31, c33]
  rw [if_pos (by simp)]
  have t16 : List.take 16 (a.ky.map B) = a.ky.map B := List.take_of_length_le (by simp [h.ky])
  have k9 : Try.prog.keyLits (m + 2) 9 [.string ⟨a.cl.toArray⟩] = some [.string a.cl] := by
    unfold Program.keyLits
    simp only [Try.underlying9]
    have : ByteArray.size ⟨a.cl.toArray⟩ = a.cl.length := rfl
    rw [if_pos (by rw [this, hm']; omega)]
  have k2 : Try.prog.keyLits (m + 2) 2 [.int .i64 a.tm] = some [.int .i64 a.tm] := by
    unfold Program.keyLits
    simp only [Try.underlying2]
    rw [if_pos ⟨trivial, by simp [Lit.wf, IntKind.min, IntKind.max, IntKind.signed, IntKind.bits]; omega⟩]
  have k31 : Try.prog.keyLits (m + 2) 31 [.int .u64 a.no] = some [.int .u64 a.no] := by
    unfold Program.keyLits
    simp only [Try.underlying31]
    rw [if_pos ⟨trivial, by simp [Lit.wf, IntKind.min, IntKind.max, IntKind.signed, IntKind.bits]; omega⟩]
  simp [c9, c2, c31, c33, k9, k2, k31, t16, hL]

theorem auEnc : KeyEnc auV Try.prog 35 Au.Ok where
  law := deep_law_laid (m := 3) (by kernel_rfl) (by omega) (of_decide_eq_true (by kernel_rfl)) (by kernel_rfl) (by kernel_rfl)
  flat := fun a => by simp [flatB, auV, flat1, B]
  lit := au_lit
  inj := auV_inj
theorem auEq : EqLaw Try.prog 35 := EqLaw.deep (m := 3) (by kernel_rfl) (by omega) (of_decide_eq_true (by kernel_rfl)) (by kernel_rfl) (by kernel_rfl) (by kernel_rfl)
end L12
