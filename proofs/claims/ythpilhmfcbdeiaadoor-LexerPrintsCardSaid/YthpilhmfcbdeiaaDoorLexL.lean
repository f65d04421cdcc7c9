/- The law's helpers for layer 26: tokens to and fro. -/
import Derived.Test.YthpilhmfcbdeiaaDoorLexP
set_option linter.unusedVariables false
set_option linter.unusedSimpArgs false
namespace Go.Proofs.YthpilhmfcbdeiaaDoor
open Go.RowKit
theorem infoRTok : (Tryd.prog.info? 25).map (fun i => (i.zero, i.size, i.bytes)) = some (some (.agg #[(.int .i64 0), (.string ⟨#[]⟩), (.int .i64 0), (.int .i64 0)]), 4, 40) := by kernel_rfl
theorem reads_own {w : World} {B : Nat} {e : TypeId} {n : Nat} {size : Nat} {A : Option Addr} {c : Nat} {xs : List Value} (h : w.ownsRow B e size (.slice A n c) n xs) : Reads w A xs := by
  intro hne
  rcases h.2 with ⟨h1, h2⟩ | ⟨g, cap, cur, h1, _⟩
  · have := h.1; rw [h2, Nat.zero_mul] at this; exact absurd (List.eq_nil_of_length_eq_zero this) hne
  · simp only [Value.slice.injEq] at h1
    obtain ⟨rfl, _, rfl⟩ := h1
    exact ⟨_, rfl, h.cells (g := g) rfl⟩
theorem Reads.below {w w' : World} {A : Option Addr} {cs : List Value} (h : Reads w A cs) (hb : Below w.heap.size w w') : Reads w' A cs := fun hne => by
  obtain ⟨ad, e, hc⟩ := h hne
  exact ⟨ad, e, fun j v hj => (hb.cell (World.block_lt_of_cell? w _ (hc j v hj))).trans (hc j v hj)⟩
theorem tok_below {w : World} {a : Addr} {t : Tok} (h : w.cell? a = some (.int .i64 t.kind) ∧ w.cell? ⟨a.block, a.off + 1, none⟩ = some (.string t.text) ∧ w.cell? ⟨a.block, a.off + 2, none⟩ = some (.int .i64 t.num) ∧ w.cell? ⟨a.block, a.off + 3, none⟩ = some (.int .i64 t.line)) :
    ∀ W : World, Below w.heap.size w W → W.cell? a = some (.int .i64 t.kind) ∧ W.cell? ⟨a.block, a.off + 1, none⟩ = some (.string t.text) ∧ W.cell? ⟨a.block, a.off + 2, none⟩ = some (.int .i64 t.num) ∧ W.cell? ⟨a.block, a.off + 3, none⟩ = some (.int .i64 t.line) := by
  obtain ⟨k0, k1, k2, k3⟩ := h
  intro W hb
  exact ⟨(hb.cell (World.block_lt_of_cell? w _ k0)).trans k0, (hb.cell (World.block_lt_of_cell? w _ k1)).trans k1, (hb.cell (World.block_lt_of_cell? w _ k2)).trans k2, (hb.cell (World.block_lt_of_cell? w _ k3)).trans k3⟩
set_option maxHeartbeats 4000000 in
set_option maxRecDepth 100000 in
theorem tokens_law (A : Option Addr) (l : List Tok) (c : Nat) (w : World) (hr : Reads w A (toks l)) (hl : l.length < 1000000000) :
    Calls Tryd.prog 10 #[.slice A l.length c] w fun e w' => ∃ v, e = .returned v ∧ w'.ownsRow w.heap.size 25 4 v l.length (toks l) ∧ Below w.heap.size w w' := by
  obtain ⟨i0, hi, hz0, hz1, hz2⟩ := info_parts infoRTok
  have HR := Lib.hid hr
  have HL := Lib.hid hl
  clear hr
  go_enter Tryd.func10, Tryd.ntmps10
  go_wp2_with fail
  go_loopg [3, 4] l.length (fun g v3 v4 wx => ∃ (i : Nat), v4 = .int .i64 i ∧ Hid (i + g = l.length) ∧ Hid (Below w.heap.size w wx) ∧ Hid (wx.ownsRow w.heap.size 25 4 v3 i (toks (l.take i))))
  case atStart =>
    exact ⟨0, rfl, Lib.hid (by omega), Lib.hid (Below.refl _ w), Lib.hid (World.ownsRow_nil _ _ _ _)⟩
  case round =>
    obtain ⟨i, rfl, HG, HB, HO⟩ := hrel
    by_cases hlt : i < l.length
    · obtain ⟨t, ht⟩ : ∃ t, l[i]? = some t := ⟨_, List.getElem?_eq_getElem hlt⟩
      obtain ⟨ad, rfl, hcell⟩ := HR.out (by intro h; have := congrArg List.length h; rw [toks_length] at this; simp at this; omega)
      have HS := Lib.hid (tok_below (reads_tok hcell i t ht))
      have HTK : Hid (toks (l.take (i + 1)) = toks (l.take i) ++ t.cells) := Lib.hid (by rw [List.take_add_one, ht, toks, toks]; simp)
      have hsz := HB.out.size
      clear hcell ht
      go_wp2_with fail
      go_region_held3 (fun w' => w'.cell? (ad.add (i * 4)) = some (.int .i64 t.kind) ∧ w'.cell? ⟨(ad.add (i * 4)).block, (ad.add (i * 4)).off + 1, none⟩ = some (.string t.text) ∧
          w'.cell? ⟨(ad.add (i * 4)).block, (ad.add (i * 4)).off + 2, none⟩ = some (.int .i64 t.num) ∧ w'.cell? ⟨(ad.add (i * 4)).block, (ad.add (i * 4)).off + 3, none⟩ = some (.int .i64 t.line))
        ((first | exact HS.out _ HB.out.drew | exact HS.out _ (HB.out.alloc hsz _).drew | exact HS.out _ ((HB.out.alloc hsz _).drew.grown hgrow (by simp; omega) (fun k hk => own_base HO.out k hk))))
        ((refine step_append_lies _ (by rfl) _ _ _ (by rfl) w.heap.size 25 i0 _ 4 40 Tryd.underlying22 hi hz0 hz1 hz2 rfl (by omega) u3 _ _ (by rfl) ((HO.out.alloc _).drew)
            ⟨wr.heap.size, 0, none⟩ 1 1 t.cells (by rfl) (by rfl) (World.news_of_block (hp_drew (hp_new wr _ rfl))) (by simp [Tok.cells, Value.oneCell'])
            (by omega) (by unfold maxLen; omega) (by omega) (by simp; omega) (wr.heap.size + 1) (by simp) ?_; intro gg cap w1 hown1 hgrow hat hlt1))
      have HB1 := Lib.hid ((HB.out.alloc hsz _).drew.grown hgrow (by simp; omega) (fun k hk => own_base HO.out k hk))
      have HO1 := Lib.hid hown1
      clear hown1 hgrow hat hlt1
      go_wp2_with fail
      go_roundg (gk - 1)
      case measure => have := HG.out; omega
      case rel => exact ⟨i + 1, by go_num, Lib.hid (by have := HG.out; omega), HB1, Lib.hid (by rw [HTK.out]; exact HO1.out)⟩
    · obtain rfl : i = l.length := by have := HG.out; omega
      have HO1 : Hid (wr.ownsRow w.heap.size 25 4 u3 l.length (toks l)) := Lib.hid (by have := HO.out; rwa [List.take_length] at this)
      go_wp2_with fail
      go_ret
      exact ⟨_, rfl, HO1.out, HB.out⟩
set_option maxHeartbeats 4000000 in
set_option maxRecDepth 100000 in
theorem back_law (A : Option Addr) (l : List Tok) (c : Nat) (w : World) (hr : Reads w A (toks l)) (hl : l.length < 1000000000) :
    Calls Tryd.prog 6 #[.slice A l.length c] w fun e w' => ∃ v, e = .returned v ∧ w'.ownsRow w.heap.size 40 4 v l.length (toks l) ∧ Below w.heap.size w w' := by
  obtain ⟨i0, hi, hz0, hz1, hz2⟩ := info_parts infoTok
  have HR := Lib.hid hr
  have HL := Lib.hid hl
  clear hr
  go_enter Tryd.func6, Tryd.ntmps6
  go_wp2_with fail
  go_loopg [3, 4] l.length (fun g v3 v4 wx => ∃ (i : Nat), v4 = .int .i64 i ∧ Hid (i + g = l.length) ∧ Hid (Below w.heap.size w wx) ∧ Hid (wx.ownsRow w.heap.size 40 4 v3 i (toks (l.take i))))
  case atStart =>
    exact ⟨0, rfl, Lib.hid (by omega), Lib.hid (Below.refl _ w), Lib.hid (World.ownsRow_nil _ _ _ _)⟩
  case round =>
    obtain ⟨i, rfl, HG, HB, HO⟩ := hrel
    by_cases hlt : i < l.length
    · obtain ⟨t, ht⟩ : ∃ t, l[i]? = some t := ⟨_, List.getElem?_eq_getElem hlt⟩
      obtain ⟨ad, rfl, hcell⟩ := HR.out (by intro h; have := congrArg List.length h; rw [toks_length] at this; simp at this; omega)
      have HS := Lib.hid (tok_below (reads_tok hcell i t ht))
      have HTK : Hid (toks (l.take (i + 1)) = toks (l.take i) ++ t.cells) := Lib.hid (by rw [List.take_add_one, ht, toks, toks]; simp)
      have hsz := HB.out.size
      clear hcell ht
      go_wp2_with fail
      go_region_held3 (fun w' => w'.cell? (ad.add (i * 4)) = some (.int .i64 t.kind) ∧ w'.cell? ⟨(ad.add (i * 4)).block, (ad.add (i * 4)).off + 1, none⟩ = some (.string t.text) ∧
          w'.cell? ⟨(ad.add (i * 4)).block, (ad.add (i * 4)).off + 2, none⟩ = some (.int .i64 t.num) ∧ w'.cell? ⟨(ad.add (i * 4)).block, (ad.add (i * 4)).off + 3, none⟩ = some (.int .i64 t.line))
        ((first | exact HS.out _ HB.out.drew | exact HS.out _ (HB.out.alloc hsz _).drew | exact HS.out _ ((HB.out.alloc hsz _).drew.grown hgrow (by simp; omega) (fun k hk => own_base HO.out k hk))))
        ((refine step_append_lies _ (by rfl) _ _ _ (by rfl) w.heap.size 40 i0 _ 4 40 Tryd.underlying27 hi hz0 hz1 hz2 rfl (by omega) u3 _ _ (by rfl) ((HO.out.alloc _).drew)
            ⟨wr.heap.size, 0, none⟩ 1 1 t.cells (by rfl) (by rfl) (World.news_of_block (hp_drew (hp_new wr _ rfl))) (by simp [Tok.cells, Value.oneCell'])
            (by omega) (by unfold maxLen; omega) (by omega) (by simp; omega) (wr.heap.size + 1) (by simp) ?_; intro gg cap w1 hown1 hgrow hat hlt1))
      have HB1 := Lib.hid ((HB.out.alloc hsz _).drew.grown hgrow (by simp; omega) (fun k hk => own_base HO.out k hk))
      have HO1 := Lib.hid hown1
      clear hown1 hgrow hat hlt1
      go_wp2_with fail
      go_roundg (gk - 1)
      case measure => have := HG.out; omega
      case rel => exact ⟨i + 1, by go_num, Lib.hid (by have := HG.out; omega), HB1, Lib.hid (by rw [HTK.out]; exact HO1.out)⟩
    · obtain rfl : i = l.length := by have := HG.out; omega
      have HO1 : Hid (wr.ownsRow w.heap.size 40 4 u3 l.length (toks l)) := Lib.hid (by have := HO.out; rwa [List.take_length] at this)
      go_wp2_with fail
      go_ret
      exact ⟨_, rfl, HO1.out, HB.out⟩
end Go.Proofs.YthpilhmfcbdeiaaDoor
