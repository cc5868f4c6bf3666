import Derived.Test.YteodcjamnfoidaaDoorL19f
import Derived.Test.YteodcjamnfoidaaDoorAbLibC
import Derived.Shelf.SlIter.Nil
import Derived.Shelf.SortM.Plain
import Derived.Shelf.SortM.SortNone
import Derived.Ground.GgzProg
import Derived.Ground.SlgmProg
namespace L19
open Go Ab Go.Proofs
open Go.RowKit Go.Maps Go.Sort Go.Shelf
set_option autoImplicit false
set_option linter.unusedSimpArgs false
set_option linter.unusedVariables false

shelf_lay_g SlLaysZ.n7 Ggz 7 at Tryd 38 as Lk.keysA
shelf_lay_g SlLaysZ.n6 Ggz 6 at Tryd 37 as Lk.sortedA
shelf_lay_g SlLaysM.n6 Slgm 6 at Tryd 59 as Lk.sortA

theorem sortsA (m : Nat) : AnyZ.SortsIn Tryd.prog Lk.sortedA_ren Fence.wide m :=
  ⟨fun blk off cap ss W hH hblk hsz => callsIn_wide.2 (AnyM.slices_Sort_string Lk.sortA blk off cap ss W hH hblk hsz),
   fun p cap W => callsIn_wide.2 (AnyM.slices_Sort_string_none Lk.sortA p cap W)⟩

/-- slices.Sorted of maps.Keys' iterator, by the kit's contracts. -/
theorem sorted_kit {H : Type} (Bm b nn : Nat) (D0 : DataW H) {R : Value → Option (DataW H × List MemPlace)} (w : World) (hBm : Bm < w.heap.size) (hm : w.cell? ⟨Bm, 0, none⟩ = some (.map (some b))) (hown : w.ownsMap Tryd.prog 9 R b nn D0) (hmax : Maps.size D0 ≤ maxLen) (hbytes : Maps.size D0 * 16 ≤ 140737488355328) :
    Calls Tryd.prog 37 #[.func (.func 61) #[] #[.pointer (some ⟨Bm, 0, none⟩)]] w fun e w' => ∃ (v : Value) (ss : List (List UInt8)), e = .returned v ∧ ss = (strKeys D0).mergeSort leB ∧
      w'.ownsRow w.heap.size 9 1 v ss.length (ss.map encStr) ∧ (v = .slice none 0 0 ↔ ss = []) ∧ Below w.heap.size w w' := by
  refine (callsIn_wide (n := 5)).1 ?_
  have hseq : SeqGives Fence.wide 2 Tryd.prog 61 #[.pointer (some ⟨Bm, 0, none⟩)] encStr (fun ss => ss.Perm (strKeys D0)) (Maps.size D0) w :=
    AnyZ.keys_gives (ρ := Lk.keysA_ren) { Lk.keysA with } Fence.wide _ trivial rfl (by omega) Bm b nn D0 w hBm hm hown
  have cS := AnyZ.sorted_in Lk.sortedA Fence.wide 5 trivial trivial trivial trivial rfl (by omega) (sortsA _) (enters_of Tryd.func59 (by kernel_rfl) rfl) 61 #[.pointer (some ⟨Bm, 0, none⟩)] trivial (enters_of Tryd.func61 (by kernel_rfl) rfl) _ _ hmax hbytes _ hseq
  change CallsIn _ _ Tryd.prog 37 _ _ _ at cS
  refine cS.mono ?_
  rintro e w' ⟨v, ss, rfl, hp, hrow, hnil, hb⟩
  refine ⟨v, ss.mergeSort leB, rfl, mergeSort_of_perm hp, by rw [List.length_mergeSort]; exact hrow, ?_, hb⟩
  rw [hnil]
  constructor
  · rintro rfl; exact List.eq_nil_of_length_eq_zero (by rw [List.length_mergeSort]; rfl)
  · intro h
    have := List.length_mergeSort (le := leB) ss
    rw [h] at this
    exact List.eq_nil_of_length_eq_zero this.symm

theorem insert_all {H : Type} : ∀ l : List (Lit × DataW H), (l.foldr DataW.insert []).Perm l
  | [] => .nil
  | x :: l => by
    rw [List.foldr_cons]
    exact (WideShapes.insert_perm x _).trans ((insert_all l).cons x)

section
variable {O : Old} {h : AHeap} {R : List Chunk} {m bx : Nat} {l : List (List UInt8 × Nat)}
theorem sorted_calls (hbx : h.obj bx = some (.row [.map (some m)] 60 1 true false)) (k : Own O h (mpc tx ptr m l :: R)) (hg : ∀ p ∈ l, p.1.length ≤ 1000000) (hl : l.length ≤ 1000) (hn : (l.map (·.1)).Nodup) :
    ACalls Tryd.prog 37 #[.func (.func 61) #[] #[ptr bx]] h fun v h' => (l = [] ∧ v = .slice none 0 0 ∧ h' = h) ∨
      (l ≠ [] ∧ v = .slice (some ⟨h.next, 0, none⟩) l.length l.length ∧ h' = h.push (.row (((l.map (·.1)).mergeSort leB).map T) 9 1 false false)) := by
  intro M w cargs r va
  obtain ⟨bs, clock, ⟨hb1, hb2, hb3⟩, k1⟩ := mpc_iff.1 k
  have hom := k1.obj
  -- the argument
  have hsz : cargs.size = 1 := va.1.symm
  have h0 := va.2 0 (by simp) (by omega)
  obtain ⟨c0, rfl⟩ : ∃ c0, cargs = #[c0] := ⟨cargs[0], by apply Array.ext <;> simp [hsz]; intro i p; subst p; rfl⟩
  simp only [List.getElem_toArray, List.getElem_cons_zero] at h0
  cases h0 with
  | func _ _ f' _ c' q1 q2 q3 q4 =>
    have hf' : f' = #[] := by apply Array.ext <;> simp [← q1]
    subst hf'
    have hc1 : c'.size = 1 := q3.symm
    have h1 := q4 0 (by simp) (by omega)
    obtain ⟨p0, rfl⟩ : ∃ p0, c' = #[p0] := ⟨c'[0], by apply Array.ext <;> simp [hc1]; intro i p; subst p; rfl⟩
    simp only [List.getElem_toArray, List.getElem_cons_zero] at h1
    cases h1 with
    | ptr _ _ b hM =>
      obtain ⟨cc, lo, hi, u1, u2, u3, u4, u5, u6, u7⟩ := r.live bx _ b hbx hM
      have hb0 : b.base = 0 := r.b0 bx b hM (u5 rfl)
      obtain ⟨vc, u8, u9⟩ := r.cell (off := 0) hbx hM rfl
      rw [hb0] at u8 ⊢
      cases u9 with
      | map _ bm hMm =>
        obtain ⟨es', hw, hmr⟩ := r.live m _ bm hom hMm
        have hkeys := hmr.mem
        have ek : (ents tx ptr l bs).map (·.key) = l.map fun p => tx p.1 := ents_keys hb1
        have eb : (ents tx ptr l bs).map (·.born) = bs := ents_borns hb1
        rw [show (ents tx ptr l bs).toArray.toList = ents tx ptr l bs from rfl, ek] at hkeys
        have hborn : es'.toList.map (·.born) = bs := by
          rw [← eb]
          apply List.ext_getElem
          · simp [hmr.1.symm]
          · intro j a c
            simp at a c
            have := (hmr.2 j (by simpa using c) a).2.1
            simpa using this.symm
        have hsize : es'.size = l.length := by rw [← hmr.1]; simp [ents_length hb1]
        have hmx : maxLen = 9223372036854775807 := by decide
        let RR : Value → Option (DataW Unit × List MemPlace) := fun _ => some (.nil, [])
        have hrd : ∀ x ∈ es'.toList, ∃ s : List UInt8, x.key = tx s ∧ s ∈ l.map (·.1) ∧ WideElems.rd Tryd.prog 9 RR x = some (.string s, .nil) := by
          intro x hx
          have : x.key ∈ l.map fun p => tx p.1 := by rw [← hkeys]; exact List.mem_map_of_mem hx
          obtain ⟨p, hp, e⟩ := List.mem_map.1 this
          have hs : ByteArray.size ⟨p.1.toArray⟩ = p.1.length := rfl
          refine ⟨p.1, e.symm, List.mem_map_of_mem hp, ?_⟩
          have hk := WideMaps.keyOf_string_mk Tryd.underlying9 (s := ⟨p.1.toArray⟩) (by rw [hs, hmx]; have := hg p hp; omega)
          simp only [WideElems.rd, ← e, tx, hk, RR, Option.bind_some, Option.map_some]
        have hown : w.ownsMap Tryd.prog 9 RR bm.blk es'.size (.map ((es'.toList.map (WideElems.rg Tryd.prog 9 RR)).foldr DataW.insert [])) := by
          refine ⟨es', clock, hw, ⟨by rw [hsize, hmx]; omega, ⟨?_, by rw [hborn]; exact hb2, ?_⟩, fun x hx => ?_⟩, Nat.le_refl _, rfl⟩
          · intro x hx
            exact hb3 _ (by rw [← hborn]; exact List.mem_map_of_mem hx)
          · rw [hkeys]
            have := nodup_map (f := tx) txEnc.inj hn
            rwa [List.map_map] at this
          · obtain ⟨s, _, _, e⟩ := hrd x hx
            exact ⟨_, e⟩
        have hperm : (strKeys (H := Unit) (.map ((es'.toList.map (WideElems.rg Tryd.prog 9 RR)).foldr DataW.insert []))).Perm (l.map (·.1)) := by
          have p1 := (insert_all (es'.toList.map (WideElems.rg Tryd.prog 9 RR))).map (fun p : Lit × DataW Unit => strOf p.1)
          refine p1.trans ?_
          have : (es'.toList.map (WideElems.rg Tryd.prog 9 RR)).map (fun p : Lit × DataW Unit => strOf p.1) = l.map (·.1) := by
            have e2 : ((es'.toList.map (WideElems.rg Tryd.prog 9 RR)).map (fun p : Lit × DataW Unit => strOf p.1)).map tx = (l.map (·.1)).map tx := by
              rw [List.map_map, List.map_map, List.map_map]
              refine Eq.trans ?_ hkeys
              apply List.map_congr_left
              intro x hx
              obtain ⟨s, e, _, e3⟩ := hrd x hx
              simp only [Function.comp, WideElems.rg, e3, Option.getD_some, strOf, e]
            have hinj : ∀ (a b : List (List UInt8)), a.map tx = b.map tx → a = b := by
              intro a
              induction a with
              | nil => intro b hb; cases b with
                | nil => rfl
                | cons => cases hb
              | cons x a ih => intro b hb; cases b with
                | nil => cases hb
                | cons y b =>
                  simp only [List.map_cons, List.cons.injEq] at hb
                  rw [txEnc.inj _ _ hb.1, ih b hb.2]
            exact hinj _ _ e2
          rw [this]
        have hsz2 : Maps.size (H := Unit) (.map ((es'.toList.map (WideElems.rg Tryd.prog 9 RR)).foldr DataW.insert [])) = l.length := by
          rw [Maps.size_eq, (insert_all _).length_eq]; simp [hsize]
        have kk := sorted_kit b.blk bm.blk es'.size _ w (r.inb bx b hM) (by simpa using u8) hown (by rw [hsz2, hmx]; omega) (by rw [hsz2]; omega)
        have kb := textsBack (ok := fun ss => ss = (strKeys (H := Unit) (.map ((es'.toList.map (WideElems.rg Tryd.prog 9 RR)).foldr DataW.insert []))).mergeSort leB) (show encStr = T from rfl) r kk
        rw [mergeSort_of_perm hperm] at kb
        refine kb.mono ?_
        rintro x w' ⟨v, vc, M', h', hx, hv, hrest⟩
        refine ⟨v, vc, M', h', hx, ?_, hrest⟩
        rcases hv with ⟨e1, e2, e3⟩ | ⟨ss, e1, e2, e3, e4⟩
        · left
          refine ⟨?_, e1, e3⟩
          have := congrArg List.length e2
          rw [List.length_mergeSort] at this
          simp at this
          exact List.eq_nil_of_length_eq_zero this.symm
        · right
          subst e1
          have hlen : ((l.map (·.1)).mergeSort leB).length = l.length := by rw [List.length_mergeSort, List.length_map]
          rw [hlen] at e3
          refine ⟨fun e => e2 ?_, e3, e4⟩
          rw [e]; exact List.eq_nil_of_length_eq_zero (by rw [List.length_mergeSort]; rfl)
end
end L19
