/- strings.Builder in the first cells of a block of whatever type. -/
import Derived.Test.YthpilhmfcbdeiaaDoorBase
import Derived.Lib.Builder
import Derived.Lib.UnsafeStr
import Derived.Lib.AppendStr
import Derived.Lib.SmallJoins
import Derived.RegionTactic
set_option linter.unusedVariables false
set_option linter.unusedSimpArgs false
namespace Go.Proofs.YthpilhmfcbdeiaaDoor
open Go.RowKit
/-- The block's type may hold a builder at its head. -/
structure BldT (T : TypeId) : Prop where
  lies : liesAt Tryd.prog Tryd.prog.depth T (2 / Tryd.prog.cellsOf T) 0 39 1 = true
  ne : T ≠ 5
def BldAt (T B b : Nat) (l : List UInt8) (w : World) : Prop :=
  ∃ p v, w.heap[b]? = some (.cells #[p, v] T (0, 0)) ∧ (p = .pointer none ∨ p = .pointer (some ⟨b, 0, none⟩)) ∧ w.ownsRow B 5 1 v l.length (Lib.byteCells l)
theorem BldAt.below {T B b : Nat} {l : List UInt8} {w w' : World} (h : BldAt T B b l w) (hb : Below w.heap.size w w') : BldAt T B b l w' := by
  obtain ⟨p, v, hh, hp, ho⟩ := h
  exact ⟨p, v, hp_below hb hh (lt_of hh), hp, own_kept ho (fun k hk => hb.block k (ho.lt k hk).2)⟩
/-- Every block but b, and but the rows of type e, is as it was. -/
def OthK (e : TypeId) (b : Nat) (w w' : World) : Prop := ∀ k x, w.heap[k]? = some x → k ≠ b → (∀ cs fr, x ≠ .cells cs e fr) → w'.heap[k]? = some x
theorem OthK.refl (e : TypeId) (b : Nat) (w : World) : OthK e b w w := fun _ _ h _ _ => h
theorem OthK.trans {e : TypeId} {b : Nat} {u v w : World} (h : OthK e b u v) (h' : OthK e b v w) : OthK e b u w := fun k x hk hb he => h' k x (h k x hk hb he) hb he
theorem OthK.set {e : TypeId} {b : Nat} {u v : World} (h : OthK e b u v) (i : Nat) (y : Value) : OthK e b u (v.setCell ⟨b, i, none⟩ y) := fun k x hk hb he => hp_ne _ _ (h k x hk hb he) hb
theorem OthK.alloc {e : TypeId} {b : Nat} {u v : World} (h : OthK e b u v) (o : Obj) : OthK e b u (v.alloc o) := fun k x hk hb he => hp_old _ (h k x hk hb he)
theorem OthK.own {e : TypeId} {b : Nat} {u v w : World} {B size n : Nat} {y : Value} {xs : List Value} (h : OthK e b u v) (hg : v.grownBy w y.ownBlock) (ho : v.ownsRow B e size y n xs) : OthK e b u w := fun k x hk hb he => by
  have hv := h k x hk hb he
  refine hp_grown hg hv (fun e' => ?_)
  rcases ho.2 with ⟨rfl, _⟩ | ⟨g, cap, cur, rfl, _, hh, _⟩
  · simp [Value.ownBlock] at e'
  · have : k = g := by simpa [Value.ownBlock] using e'
    subst this
    rw [hh] at hv
    exact he _ _ (Option.some.inj hv).symm
theorem OthK.cells {e : TypeId} {b : Nat} {w w' : World} (h : OthK e b w w') {k : Nat} {cs : Array Value} {t : TypeId} {fr : Nat × Nat} (hk : w.heap[k]? = some (.cells cs t fr)) (hb : k ≠ b) (ht : t ≠ e) : w'.heap[k]? = some (.cells cs t fr) :=
  h k _ hk hb (fun _ _ he => ht (by injection he))
theorem infoByte : (Tryd.prog.info? 5).map (fun i => (i.zero, i.size, i.bytes)) = some (some (.int .u8 0), 1, 1) := by kernel_rfl
theorem sizeBuilder : (Tryd.prog.info? 39).map (·.size) = some 2 := by kernel_rfl
theorem cellsByte : Tryd.prog.cellsOf 5 = 1 := by kernel_rfl
set_option maxHeartbeats 1000000 in
set_option maxRecDepth 100000 in
theorem copyCheck_any (T B b : Nat) (hT : BldT T) (l : List UInt8) (w : World) (h : BldAt T B b l w) :
    Calls Tryd.prog 17 #[.pointer (some ⟨b, 0, none⟩)] w fun e w' => e = .returned (.tuple #[]) ∧ But B b w w' ∧ OthK 5 b w w' ∧ ∃ v, w'.heap[b]? = some (.cells #[.pointer (some ⟨b, 0, none⟩), v] T (0, 0)) ∧ w'.ownsRow B 5 1 v l.length (Lib.byteCells l) := by
  obtain ⟨p, v, hh, hp, ho⟩ := h
  have HO := Lib.hid ho
  clear ho
  obtain ⟨j, hj, hjs⟩ := Option.map_eq_some_iff.1 sizeBuilder
  rcases hp with rfl | rfl
  · have c0 := cell_of hh 0 _ rfl
    have f0 := free_of hh 0
    have hsh : w.shape? b = some (T, 2) := by simp [World.shape?, hh]
    have r1 := Lib.run_to_unsafe (P := Tryd.prog) w (src := 36) (dst := 57) ⟨b, 0, none⟩ Tryd.underlying36 Tryd.underlying57 hj (by rw [hjs]; decide) hsh (Nat.zero_lt_succ 1)
    have r2 := Lib.run_from_unsafe (P := Tryd.prog) w (src := 57) (dst := 36) ⟨b, 0, none⟩ Tryd.underlying57 Tryd.underlying36 hj hsh hT.lies
    have r3 := Lib.run_noEscape (P := Tryd.prog) w (.pointer (some ⟨b, 0, none⟩))
    have HR1 := Lib.hid r1
    have HR2 := Lib.hid r2
    have HR3 := Lib.hid r3
    clear r1 r2 r3
    go_enter Tryd.func17, Tryd.ntmps17
    go_wp2
    rw [HR1.out]
    simp only [Result.andThen]
    rw [Oper.upon_value]
    go_wp2
    rw [run_callFunc_extern Tryd.func26 (by kernel_rfl) (by kernel_rfl) (by kernel_rfl) (e := Extern.AbiNoEscape.same) (by kernel_rfl)]
    rw [HR3.out]
    simp only [Result.andThen]
    rw [Oper.upon_value]
    go_wp2
    rw [HR2.out]
    simp only [Result.andThen]
    rw [Oper.upon_value]
    go_wp2
    go_end0
    exact ⟨rfl, (But.refl B b w).set _ _, (OthK.refl _ b w).set _ _, v, hp_set hh 0 _, own_set HO.out _ (own_ne HO.out hh hT.ne)⟩
  · have c0 := cell_of hh 0 _ rfl
    go_enter Tryd.func17, Tryd.ntmps17
    go_wp2
    rw [Lib.run_neq_ptr_same w _ Tryd.underlying36 hj]
    go_wp2
    go_end0
    exact ⟨rfl, But.refl B b w, OthK.refl _ b w, v, hh, HO.out⟩
set_option maxHeartbeats 1000000 in
set_option maxRecDepth 100000 in
theorem writeByte_any (T B b : Nat) (hT : BldT T) (l : List UInt8) (c : UInt8) (w : World) (h : BldAt T B b l w) (hB : B ≤ w.heap.size) (hl : l.length < 1000000000000) :
    Calls Tryd.prog 12 #[.pointer (some ⟨b, 0, none⟩), .int .u8 c.toNat] w fun e w' => e = .returned .nilIface ∧ BldAt T B b (l ++ [c]) w' ∧ But B b w w' ∧ OthK 5 b w w' := by
  obtain ⟨i0, hi, hz0, hz1, hz2⟩ := info_parts infoByte
  go_enter Tryd.func12, Tryd.ntmps12
  go_wp2_with fail
  refine (copyCheck_any T B b hT l _ h).mono ?_
  rintro e w1 ⟨rfl, hb1, hk1, v, hh, ho⟩
  have HK := Lib.hid hk1
  clear hk1
  have HB := Lib.hid hb1
  have HO := Lib.hid ho
  have hs1 := hb1.size
  have c1 := cell_of hh 1 _ rfl
  clear hb1 ho
  go_wp2_with (at_builtin; refine wpList_append_lies _ rfl _ _ _ rfl B 5 i0 _ 1 1 Tryd.underlying37 hi hz0 hz1 hz2 rfl (by omega) v _ _ (by rfl) (HO.out.alloc _) ⟨w1.heap.size, 0, none⟩ 1 1 [.int .u8 c.toNat] (by rfl) (by rfl) (World.news_of_block (hp_new w1 _ rfl)) (by simp [Value.oneCell']) (by omega) (by unfold maxLen; omega) (by omega) (by simp; omega) (w1.heap.size + 1) (by simp) ?_; intro gg cap w3 hown hgrow hat hlt1; have hh3 := hp_grown hgrow (hp_old _ hh) (own_ne HO.out hh hT.ne); have f3 := free_of hh3 1; have c3 := cell_of hh3 1 _ rfl; have HB3 := Lib.hid ((HB.out.alloc (by omega) _).own hgrow (by simp; omega) (HO.out.alloc _)); have HW := Lib.hid hown; have HK3 := Lib.hid ((HK.out.alloc _).own hgrow (HO.out.alloc _)); clear hown hgrow hat)
  go_ret
  exact ⟨rfl, ⟨_, _, hp_set hh3 1 _, .inr rfl, by rw [List.length_append]; exact own_set (by simpa [Lib.byteCells] using HW.out) _ (own_ne HW.out hh3 hT.ne)⟩, HB3.out.set _ _, HK3.out.set _ _⟩
set_option maxHeartbeats 1000000 in
set_option maxRecDepth 100000 in
theorem writeString_any (T B b : Nat) (hT : BldT T) (l : List UInt8) (s : ByteArray) (w : World) (h : BldAt T B b l w) (hB : B ≤ w.heap.size) (hl : l.length + s.size < 1000000000000) :
    Calls Tryd.prog 13 #[.pointer (some ⟨b, 0, none⟩), .string s] w fun e w' => e = .returned (.tuple #[.int .i64 s.size, .nilIface]) ∧ BldAt T B b (l ++ s.data.toList) w' ∧ But B b w w' ∧ OthK 5 b w w' := by
  obtain ⟨i0, hi, hz0, hz1, hz2⟩ := info_parts infoByte
  go_enter Tryd.func13, Tryd.ntmps13
  go_wp2_with fail
  refine (copyCheck_any T B b hT l _ h).mono ?_
  rintro e w1 ⟨rfl, hb1, hk1, v, hh, ho⟩
  have HK := Lib.hid hk1
  clear hk1
  have HB := Lib.hid hb1
  have HO := Lib.hid ho
  have hs1 := hb1.size
  have c1 := cell_of hh 1 _ rfl
  clear hb1 ho
  go_wp2_with (at_builtin; refine Lib.wpList_append_own_string _ rfl _ _ 37 9 rfl B 5 i0 Tryd.underlying37 Tryd.underlying9 hi hz0 hz1 hz2 _ _ _ rfl HO.out s rfl (by unfold maxLen; omega) (by omega) (by omega) ?_; intro v3 w3 hown hgrow _; have hh3 := hp_grown hgrow hh (own_ne HO.out hh hT.ne); have f3 := free_of hh3 1; have c3 := cell_of hh3 1 _ rfl; obtain ⟨ao, cap, rfl⟩ := own_slice hown; have HB3 := Lib.hid (HB.out.own hgrow (by omega) HO.out); have HW := Lib.hid hown; have HK3 := Lib.hid (HK.out.own hgrow HO.out); clear hown hgrow)
  go_ret2
  have hln : (l ++ s.data.toList).length = l.length + s.size := by rw [List.length_append, Array.length_toList]; rfl
  have hbc : Lib.byteCells (l ++ s.data.toList) = Lib.byteCells l ++ Lib.strCells s := by simp [Lib.byteCells, Lib.strCells]
  exact ⟨rfl, ⟨_, _, hp_set hh3 1 _, .inr rfl, by rw [hln, hbc]; exact own_set HW.out _ (own_ne HW.out hh3 hT.ne)⟩, HB3.out.set _ _, HK3.out.set _ _⟩
theorem But.freeze {B b : Nat} {a w : World} (h : But B b a w) {p : Addr} (hp : B ≤ p.block) (n : Nat) : But B b a (w.freeze p n) :=
  h.trans (But.of (Lib.below_freeze (Below.refl B w) hp n))
set_option maxHeartbeats 1000000 in
set_option maxRecDepth 100000 in
theorem string_any (T B b : Nat) (hT : BldT T) (l : List UInt8) (w : World) (h : BldAt T B b l w) (hB : B ≤ w.heap.size) :
    Calls Tryd.prog 14 #[.pointer (some ⟨b, 0, none⟩)] w fun e w' => e = .returned (.string ⟨l.toArray⟩) ∧ But B b w w' := by
  obtain ⟨p, v, hh, hp, hown⟩ := h
  have hlt := lt_of hh
  by_cases h0 : l = []
  · subst h0
    have hUS : ∀ (W : World) (q : Option Addr), (Builtin.unsafeString_ #[53, 3] 9 #[.pointer q, .int .i64 0]).run Tryd.prog W = .ok (.string .empty) W := fun W q => Lib.run_unsafeString_none W _ _ _ q
    rcases hown.2 with ⟨rfl, _⟩ | ⟨g, cap, cur, rfl, hbg, hg, _⟩
    · have c1 : w.drew.cell? ⟨b, 1, none⟩ = some (.slice none 0 0) := cell_of (hp_drew hh) 1 _ rfl
      have hSD : (Builtin.unsafeSliceData_ #[37] 53 #[.slice none 0 0]).run Tryd.prog w.drew = .ok (.pointer none) w.drew := rfl
      clear hown
      go_enter Tryd.func14, Tryd.ntmps14
      go_wp2
      go_region
      all_goals (go_wp2; go_ret; exact ⟨rfl, (But.refl B b w).drew⟩)
    · by_cases hc0 : cap = 0
      · subst hc0
        have c1 : w.drew.cell? ⟨b, 1, none⟩ = some (.slice (some ⟨g, 0, none⟩) 0 0) := cell_of (hp_drew hh) 1 _ rfl
        have hSD : (Builtin.unsafeSliceData_ #[37] 53 #[.slice (some ⟨g, 0, none⟩) 0 0]).run Tryd.prog w.drew = .ok (.pointer (some ⟨w.drew.heap.size, 0, none⟩)) (w.drew.alloc (.view ⟨g, 0, none⟩ 5)) :=
          Lib.run_unsafeSliceData_zero w.drew _ _ 5 Tryd.underlying53 ⟨g, 0, none⟩ 0 (5, cur.size) (by have hg' : w.drew.heap[g]? = some (.cells cur 5 (0, 0)) := hg; simp [World.shape?, hg'])
        have c2 : (w.drew.alloc (.view ⟨g, 0, none⟩ 5)).cell? ⟨b, 1, none⟩ = some (.slice (some ⟨g, 0, none⟩) 0 0) := cell_of (hp_old _ (hp_drew hh)) 1 _ rfl
        have c3 : (w.alloc (.view ⟨g, 0, none⟩ 5)).drew.cell? ⟨b, 1, none⟩ = some (.slice (some ⟨g, 0, none⟩) 0 0) := c2
        have c0 : w.cell? ⟨b, 1, none⟩ = some (.slice (some ⟨g, 0, none⟩) 0 0) := c1
        clear hown hg hbg
        go_enter Tryd.func14, Tryd.ntmps14
        go_wp2
        go_region
        all_goals (go_wp2; go_ret; exact ⟨rfl, ((But.refl B b w).drew).alloc hB _⟩)
      · have c1 : w.drew.cell? ⟨b, 1, none⟩ = some (.slice (some ⟨g, 0, none⟩) 0 cap) := cell_of (hp_drew hh) 1 _ rfl
        have hSD : (Builtin.unsafeSliceData_ #[37] 53 #[.slice (some ⟨g, 0, none⟩) 0 cap]).run Tryd.prog w.drew = .ok (.pointer (some ⟨g, 0, none⟩)) w.drew := Lib.run_unsafeSliceData_row _ _ _ _ _ _ hc0
        clear hown hg hbg hc0
        go_enter Tryd.func14, Tryd.ntmps14
        go_wp2
        go_region
        all_goals (go_wp2; go_ret; exact ⟨rfl, (But.refl B b w).drew⟩)
  · have hl0 : l.length ≠ 0 := by simpa using h0
    obtain ⟨g, cap, cur, rfl, hbg, hg, hnc, hcm, hcs, htake⟩ : ∃ g cap cur, v = .slice (some ⟨g, 0, none⟩) l.length cap ∧ B ≤ g ∧ w.heap[g]? = some (.cells cur 5 (0, 0)) ∧ l.length ≤ cap ∧ cap ≤ maxLen ∧ cur.size = cap * 1 ∧ cur.toList.take (l.length * 1) = Lib.byteCells l := by
      rcases hown.2 with ⟨_, hz⟩ | ⟨g, cap, cur, hv, r⟩
      · exact absurd hz hl0
      · exact ⟨g, cap, cur, hv, r⟩
    have c1 : w.drew.cell? ⟨b, 1, none⟩ = some (.slice (some ⟨g, 0, none⟩) l.length cap) := cell_of (hp_drew hh) 1 _ rfl
    have hSD : (Builtin.unsafeSliceData_ #[37] 53 #[.slice (some ⟨g, 0, none⟩) l.length cap]).run Tryd.prog w.drew = .ok (.pointer (some ⟨g, 0, none⟩)) w.drew := Lib.run_unsafeSliceData_row _ _ _ _ _ _ (by omega)
    have hUS : (Builtin.unsafeString_ #[53, 3] 9 #[.pointer (some ⟨g, 0, none⟩), .int .i64 l.length]).run Tryd.prog w.drew = .ok (.string ⟨l.toArray⟩) (w.drew.freeze ⟨g, 0, none⟩ l.length) := by
      refine Lib.run_unsafeString_row w.drew 53 3 9 5 Tryd.underlying53 cellsByte g cur.size (by have hg' : w.drew.heap[g]? = some (.cells cur 5 (0, 0)) := hg; simp [World.shape?, hg']) l h0 (by omega) (by unfold maxLen at hcm; omega) ?_
      intro j x hx
      exact hown.cells (g := g) rfl j (.int .u8 x.toNat) (by simp [Lib.byteCells, hx])
    clear hown hg htake hcs hnc hcm hl0 h0
    go_enter Tryd.func14, Tryd.ntmps14
    go_wp2
    go_region
    all_goals (go_wp2; go_ret; exact ⟨rfl, ((But.refl B b w).drew).freeze (p := ⟨g, 0, none⟩) hbg _⟩)
end Go.Proofs.YthpilhmfcbdeiaaDoor
