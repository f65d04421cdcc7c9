/- The lexer's law LexerPrints answers true for every list of reference tokens, and leaves that list as it was: the row and its tied card. -/
import Derived.Test.YthpilhmfcbdeiaaDoorRows
import Derived.Test.YthpilhmfcbdeiaaDoorTie
import Derived.Test.YthpilhmfcbdeiaaDoorCards
import Derived.Test.YthpilhmfcbdeiaaDoorLexO
import Derived.ProofKit
import Derived.LaidMore
import Derived.SevenTiedAt
import Derived.Stop.LaidErr
import Derived.Lib.LaidTab
import Derived.Deep.Slices
set_option linter.unusedVariables false
set_option linter.unusedSimpArgs false
namespace Go.Proofs.YthpilhmfcbdeiaaDoor
open Go.ChangeShapes Go.WideShapes Go.ChangeAt Go.RowKit
theorem own : ownKnob Tryd.prog.godebug = none := by kernel_rfl
theorem laidOut : laidOutB Tryd.prog = true := by kernel_rfl
theorem gTab : Tryd.prog.globalNamed "internal/strconv.uint64pow10" = some 3 := by kernel_rfl
theorem gSyn : Tryd.prog.globalNamed "strconv.ErrSyntax" = some 1 := by kernel_rfl
theorem gRng : Tryd.prog.globalNamed "strconv.ErrRange" = some 2 := by kernel_rfl
theorem var_lt {P : Program} {w : World} {name : String} {g : Nat} {cs : Array Value} (hg : P.globalNamed name = some g) (h : w.var? P name = some cs) : g < w.heap.size := by
  unfold World.var? at h
  rw [hg] at h
  simp only [Option.bind_some] at h
  rcases Nat.lt_or_ge g w.heap.size with h' | h'
  · exact h'
  · simp [Array.getElem?_eq_none h'] at h
/-- The first of the listed variables holds an interface value. -/
theorem iface_of_head {P : Program} {n nm : String} {d : DataW Unit} {r : List (String × DataW Unit)} {W : World} {g : Nat} {ti : TypeId} {ms : Array (String × TypeId)}
    (h : laidMet P ((n, .iface nm d) :: r) W) (hg : P.globalNamed n = some g) (ht : (P.globals[g]?).map (·.type) = some ti) (hi : P.underlying ti = some (.interface ms)) :
    ∃ tp p, W.var? P n = some #[.iface tp p] := by
  obtain ⟨ps, ⟨g0, t0, cs0, f0, p0, q0, hg0, ht0, hv0, hd0, _, e0⟩, _, _⟩ := h
  obtain rfl := Option.some.inj (hg.symm.trans hg0)
  obtain rfl := Option.some.inj (ht.symm.trans ht0)
  obtain ⟨l0⟩ := cs0
  cases f0 with
  | zero => simp [DataW.trod] at hd0
  | succ f0 =>
    unfold DataW.trod at hd0
    rw [hi] at hd0
    simp only at hd0
    split at hd0 <;> simp_all
theorem vars_of_laid {W : World} (h : laidMetH Tryd.prog Rows.lexerPrintsRow.laid W) : VarsW W := by
  have hL : laidMet Tryd.prog Rows.lexerPrintsRow.laid W := h
  have t1 := (hL.tail).tail
  have tab : Lib.TabIs Tryd.prog W "internal/strconv.uint64pow10" .u64 Lib.pow10Tab :=
    Lib.tabIs_of_head (zs := Lib.pow10Tab) gTab (by kernel_rfl) Tryd.underlying88 Tryd.underlying69 (by kernel_rfl) (by kernel_rfl) t1
  obtain ⟨tr, pr, hr⟩ := iface_of_head t1.tail gRng (by kernel_rfl) Tryd.underlying43
  obtain ⟨ts, ps, hs⟩ := iface_of_head t1.tail.tail gSyn (by kernel_rfl) Tryd.underlying43
  have l1 := var_lt gTab tab
  have l2 := var_lt gSyn hs
  have l3 := var_lt gRng hr
  exact ⟨tab, ⟨ts, ps, hs⟩, ⟨tr, pr, hr⟩, ⟨l1, Nat.ne_of_lt l1⟩, ⟨l2, Nat.ne_of_lt l2⟩, ⟨l3, Nat.ne_of_lt l3⟩⟩
theorem door_met (os : Os) (args : Array Value) : laidMetH Tryd.prog Rows.lexerPrintsRow.laid ((World.doorLaid Tryd.prog 62 os).forCall (fun _ _ => 0) ⟨#[], args, []⟩).memory :=
  laidMetH_of_parts3 (fuel := 8) (laidMet_of_run' 8 (by kernel_rfl) (by kernel_rfl)) (by kernel_rfl) (by kernel_rfl)

theorem toks_inv (l : List Tok) (k : Nat) (v : Value) (h : (toks l)[k]? = some v) : ∃ i j t, k = i * 4 + j ∧ l[i]? = some t ∧ t.cells[j]? = some v := by
  induction l generalizing k with
  | nil => simp [toks] at h
  | cons t r ih =>
    have e : toks (t :: r) = t.cells ++ toks r := by simp [toks]
    rw [e, List.getElem?_append] at h
    have hl : t.cells.length = 4 := rfl
    rw [hl] at h
    split at h
    · exact ⟨0, k, t, by omega, rfl, h⟩
    · obtain ⟨i, j, u, h1, h2, h3⟩ := ih _ h
      exact ⟨i + 1, j, u, by omega, by simpa using h2, h3⟩
/-- A slice of tokens, opened. -/
theorem open_toks {H : Type} {enc : TypeId × Value → H} {W : World} {base : Nat} {sp : Nat → Bool} {a : Option Addr} {len cap : Nat} {d : DataW H} {p : List MemPlace} (h : DataW.Trod enc Tryd.prog W base sp true 22 (.slice a len cap) d p) :
    ∃ l : List Tok, l.length = len ∧ Reads W a (toks l) := by
  obtain ⟨fuel, hf⟩ := h
  rcases Go.Deep.open_slice Tryd.underlying22 hf with ⟨hcs, _⟩ | ⟨x, ln, c, m, n, D, Pl, hcs, _, hl, hm, hmm, _, hel⟩
  · simp [Value.cells] at hcs
    obtain ⟨rfl, rfl, rfl⟩ := hcs
    exact ⟨[], rfl, fun h => absurd rfl h⟩
  · simp [Value.cells] at hcs
    obtain ⟨rfl, rfl, rfl⟩ := hcs
    have hle : len ≤ m := by rw [hmm]; split <;> omega
    have c25 : Tryd.prog.cellsOf 25 = 4 := by kernel_rfl
    have c3 : Tryd.prog.cellsOf 3 = 1 := by kernel_rfl
    have c2 : Tryd.prog.cellsOf 2 = 1 := by kernel_rfl
    have c9 : Tryd.prog.cellsOf 9 = 1 := by kernel_rfl
    rw [c25] at hel
    have key : ∀ i, i < len → ∃ t : Tok, ∀ j v, t.cells[j]? = some v → W.cell? (x.add (i * 4 + j)) = some v := by
      intro i hi
      obtain ⟨cs', h1, h2⟩ := hel i (by omega)
      obtain ⟨xs, n', _, _, hlen, hxl, hfs⟩ := DataW.trod_struct Tryd.underlying25 h2
      obtain ⟨_, hlen4, hat⟩ := World.cells?_some h1
      match cs', hlen4 with
      | [e0, e1, e2, e3], _ =>
        match xs, hxl with
        | [y0, y1, y2, y3], _ =>
          have g0 := hfs 0 _ rfl
          have g1 := hfs 1 _ rfl
          have g2 := hfs 2 _ rfl
          have g3 := hfs 3 _ rfl
          obtain ⟨n0, h0, _, _⟩ := DataW.trod_int Tryd.underlying3 g0
          obtain ⟨n1, h1', _, _⟩ := DataW.trod_string Tryd.underlying9 g1
          obtain ⟨n2, h2', _, _⟩ := DataW.trod_int Tryd.underlying2 g2
          obtain ⟨n3, h3, _, _⟩ := DataW.trod_int Tryd.underlying3 g3
          have z0 : e0 = .int .i64 n0 := by simpa [c3] using h0
          have z1 : e1 = .string n1 := by simpa [c9] using h1'
          have z2 : e2 = .int .i64 n2 := by simpa [c2] using h2'
          have z3 : e3 = .int .i64 n3 := by simpa [c3] using h3
          subst z0; subst z1; subst z2; subst z3
          refine ⟨⟨n0, n1, n2, n3⟩, fun j v hv => ?_⟩
          have hj : j < 4 := (List.getElem?_eq_some_iff.1 hv).1
          have := hat j hj
          rw [Go.Deep.add_add] at this
          rw [this]; exact hv
    have : ∃ l : List Tok, l.length = len ∧ ∀ i t, l[i]? = some t → ∀ j v, t.cells[j]? = some v → W.cell? (x.add (i * 4 + j)) = some v := by
      haveI : Inhabited Tok := ⟨⟨0, ⟨#[]⟩, 0, 0⟩⟩
      obtain ⟨T, hT⟩ := Go.Deep.choose_lt (α := Tok) (n := len) key
      refine ⟨(List.range len).map T, by simp, fun i t ht => ?_⟩
      simp only [List.getElem?_map, Option.map_eq_some_iff] at ht
      obtain ⟨k, hk, rfl⟩ := ht
      obtain ⟨hk1, hk2⟩ := List.getElem?_eq_some_iff.1 hk
      simp at hk1 hk2
      subst hk2
      exact hT i hk1
    obtain ⟨l, hll, hat⟩ := this
    refine ⟨l, hll, fun _ => ⟨x, rfl, fun k v hv => ?_⟩⟩
    obtain ⟨i, j, t, rfl, h1, h2⟩ := toks_inv l k v hv
    exact hat i t h1 j v h2
set_option maxRecDepth 100000 in
theorem lifted (os : Os) (started : os.Started) (H : Type) (enc : TypeId × Value → H) :
    ReturnsInHanded {} Tryd.checked os 3 .any (fun w args => (Rows.lexerPrintsSpec.pre enc Tryd.prog Tryd.f3 [] false w args ∧ laidMetH Tryd.prog Rows.lexerPrintsRow.laid w) ∧ sizedMet enc Tryd.prog Tryd.f3 (OpenSpec.ofChange Rows.lexerPrintsSpec) false w args)
      (Rows.lexerPrintsSpec.post enc Tryd.prog Tryd.f3 false true false false) := by
  refine returnsInHanded_of_change_and (C := Tryd.checked) (X := fun w _ => laidMetH Tryd.prog Rows.lexerPrintsRow.laid w) (fun _ _ _ hh h => h.of_heap hh) own started (by kernel_rfl) Tryd.func3
    (ChangeSpec.witness_shaped (enc := enc) (C := Tryd.checked) (os := os) (X := fun w _ => laidMetH Tryd.prog Rows.lexerPrintsRow.laid w) false (World.doorLaid Tryd.prog 62 os) #[.slice none 0 0] 8 rfl (World.shaped_of_RefB (by kernel_rfl) (by kernel_rfl)) (by kernel_rfl) (by kernel_rfl) (by kernel_rfl) (door_met os _)) ?_
  intro W base args ds gs before hval0 hW _ _ hL _
  have hval : ∀ (j : Nat) t v, Tryd.f3.params[j]? = some t → args[j]? = some v → Value.okWide Tryd.prog W .any base t v := hval0
  have hW' := hW
  obtain ⟨p, q, hA0, hV, rfl, hfz, hnd⟩ := hW
  have hA : DataW.TrodAll enc Tryd.prog W 0 (fun _ => true) true Tryd.f3.params.toList args.toList ds p := hA0
  rw [Tryd.params3] at hA hval
  obtain ⟨v0, d0, rfl, rfl, h0⟩ := trodAll_one hA
  obtain ⟨rfl, rfl⟩ := trodVars_none hV
  obtain ⟨a0, len0, cap0, rfl⟩ := okWide_slice Tryd.underlying22 (hval 0 22 v0 rfl rfl)
  have lt0 : ∀ x ∈ p, x.block < W.heap.size := by
    obtain ⟨m, hm⟩ := h0
    exact DataW.trod_lt m _ _ _ hm
  obtain ⟨l, rfl, hr⟩ := open_toks h0
  clear hA0 hval0
  refine (law_any a0 l cap0 W hr (vars_of_laid hL)).mono fun e W' ⟨he, bel⟩ => ?_
  subst he
  exact ⟨_, rfl, _, _, _, [], _, [], hW', trodAll_mk1 (shut_bool Tryd.underlying4 _), trodAll_cons_mk (Below.trod laidOut (by kernel_rfl) (of_decide_eq_true (by kernel_rfl)) h0 bel lt0) trodAll_mk0, rfl, bel.frame _, fun h => by cases h⟩
theorem lexerPrints_holds : Rows.LexerPrintsSaid :=
  OpenClaim.holds_of_wide 3 Tryd.f3 rfl rfl rfl rfl rfl rfl rfl ⟨rfl, rfl, rfl, rfl, rfl⟩ rfl rfl rfl rfl rfl (by kernel_rfl) Tryd.func3 (by kernel_rfl)
    (of_decide_eq_true (by kernel_rfl)) (by unfold Func.isWrapper; rw [if_neg (of_decide_eq_false (by kernel_rfl))]; exact ⟨rfl, rfl⟩)
    (fun os started H enc _ => lifted os started H enc)
end Go.Proofs.YthpilhmfcbdeiaaDoor
