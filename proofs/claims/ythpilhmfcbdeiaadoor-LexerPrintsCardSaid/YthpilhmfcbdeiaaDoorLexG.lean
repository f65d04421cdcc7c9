/- lexer.Tokens: the model and its contract. -/
import Derived.Test.YthpilhmfcbdeiaaDoorLexF
import Derived.Deep.LoopGhost
set_option linter.unusedVariables false
set_option linter.unusedSimpArgs false
namespace Go.Proofs.YthpilhmfcbdeiaaDoor
open Go.RowKit
def Sc.step (s : Sc) (c : Int) : Sc := match s.st with
  | .between => s.between c
  | .remark => s.remark c
  | .word => s.word c
  | .number => s.number c
/-- All runes of a text, one after the other; the first fault ends it. -/
def lexAll (s : Sc) : List Int → Sc
  | [] => s
  | c :: r => if 0 < (s.step c).bad then s.step c else lexAll (s.step c) r
def runesFrom (s : ByteArray) : Nat → Nat → List Int
  | 0, _ => []
  | g + 1, pos => if pos < s.size then ((Utf8.decode s pos).1 : Int) :: runesFrom s g (pos + (Utf8.decode s pos).2) else []
def runesOf (s : ByteArray) : List Int := runesFrom s s.size 0
def Sc.init : Sc := ⟨.between, [], [], 1, 0⟩
/-- The tokens, the line of the fault, the error. -/
def lexTokens (s : ByteArray) : List Tok × Int × Int :=
  let z := lexAll Sc.init (runesOf s ++ [10])
  if 0 < z.bad then ([], z.bad, 30) else (z.out, 0, 0)
theorem lexAll_append (s : Sc) (l : List Int) (c : Int) (h0 : ¬ 0 < s.bad) : lexAll s (l ++ [c]) = (let z := lexAll s l; if 0 < z.bad then z else z.step c) := by
  induction l generalizing s with
  | nil => simp [lexAll, h0]
  | cons x r ih =>
    show (if 0 < (s.step x).bad then s.step x else lexAll (s.step x) (r ++ [c])) = (let z := (if 0 < (s.step x).bad then s.step x else lexAll (s.step x) r); if 0 < z.bad then z else z.step c)
    by_cases h : 0 < (s.step x).bad
    · simp only [if_pos h]
    · simp only [if_neg h]; exact ih _ h
theorem encode_size (n : Int) : (Utf8.encode n).size ≤ 4 := by
  unfold Utf8.encode
  simp only []
  repeat' split
  all_goals (first | (show 1 ≤ 4; omega) | (show 2 ≤ 4; omega) | (show 3 ≤ 4; omega) | (show 4 ≤ 4; omega))
theorem encAll_size (xs : List Int) : (encAll xs).size ≤ 4 * xs.length := by
  unfold encAll
  have : ∀ (xs : List Int) (s : ByteArray), (xs.foldl (fun r n => r ++ Utf8.encode n) s).size ≤ s.size + 4 * xs.length := by
    intro xs
    induction xs with
    | nil => intro s; simp
    | cons x xs ih =>
      intro s
      have h := ih (s ++ Utf8.encode x)
      have h4 := encode_size x
      simp only [List.foldl_cons, List.length_cons, ByteArray.size_append] at h ⊢
      omega
  simpa using this xs ByteArray.empty
/-- What k runes can have made of the scanner. -/
structure Sc.Ok (k : Nat) (s : Sc) : Prop where
  out : s.out.length ≤ 2 * k
  txt : s.txt.length ≤ k + 1
  lo : 1 ≤ s.line
  hi : s.line ≤ k + 1
  bad : 0 ≤ s.bad
theorem badOf_nonneg {bd l : Int} (h : 0 ≤ bd) (hl : 1 ≤ l) : 0 ≤ badOf bd l := by unfold badOf; split <;> omega
theorem ok_between (k : Nat) (s : Sc) (c : Int) (n : Nat) (hn : n ≤ 1) (ho : s.out.length ≤ 2 * k + n) (ht : s.txt.length ≤ k + 1) (h1 : 1 ≤ s.line) (h2 : s.line ≤ k + 1) (hb : 0 ≤ s.bad) : (s.between c).Ok (k + 1) := by
  obtain ⟨st, out, txt, l, bd⟩ := s
  simp only at ho ht h1 h2 hb
  unfold Sc.between
  repeat' split
  · exact ⟨by simp; omega, by simp; omega, h1, by simp; omega, hb⟩
  · exact ⟨by simp; omega, by simp; omega, h1, by simp; omega, hb⟩
  · unfold Sc.feed
    split
    · exact ⟨by simp [Sc.emit]; omega, by simp [Sc.emit]; omega, by simp [Sc.emit]; omega, by simp [Sc.emit]; omega, hb⟩
    · exact ⟨by simp; omega, by simp; omega, by simp; omega, by simp; omega, hb⟩
  · exact ⟨by simp; omega, by simp, h1, by simp; omega, hb⟩
  · exact ⟨by simp; omega, by simp, h1, by simp; omega, hb⟩
  · exact ⟨by simp [Sc.emit]; omega, by simp [Sc.emit]; omega, h1, by simp [Sc.emit]; omega, hb⟩
  · exact ⟨by simp; omega, by simp; omega, h1, by simp; omega, badOf_nonneg hb h1⟩
theorem ok_step (k : Nat) (s : Sc) (c : Int) (h : s.Ok k) : (s.step c).Ok (k + 1) := by
  obtain ⟨st, out, txt, l, bd⟩ := s
  obtain ⟨h1, h2, h3, h4, h5⟩ := h
  simp only at h1 h2 h3 h4 h5
  unfold Sc.step
  cases st
  · exact ok_between k _ c 0 (by omega) (by simp; omega) h2 h3 h4 h5
  · simp only [Sc.remark]
    split
    · exact ok_between k _ c 0 (by omega) (by simp; omega) h2 h3 h4 h5
    · exact ⟨by simp; omega, by simp; omega, h3, by simp; omega, h5⟩
  · simp only [Sc.word]
    split
    · exact ⟨by simp; omega, by simp; omega, h3, by simp; omega, h5⟩
    · exact ok_between k _ c 1 (by omega) (by simp [Sc.emit]; omega) h2 h3 h4 h5
  · simp only [Sc.number]
    split
    · exact ⟨by simp; omega, by simp; omega, h3, by simp; omega, h5⟩
    · refine ok_between k _ c 1 (by omega) ?_ ?_ ?_ ?_ ?_ <;> simp only [Sc.numTok, Sc.emit] <;> split <;> simp <;> first | omega | exact badOf_nonneg h5 h3
theorem step_calls (B b k : Nat) (s : Sc) (c : Int) (w : World) (hV : Vars B b w) (hB : B ≤ w.heap.size) (h : s.At B b w) (hok : s.Ok k) (hk : k < 200000000) (hc : 0 ≤ c) :
    Calls Tryd.prog s.st.f #[.pointer (some ⟨b, 0, none⟩), .int .i32 c] w fun e w' => Left B b (s.step c) w e w' := by
  have h1 := hok.out
  have h2 := hok.txt
  have h3 := hok.lo
  have h4 := hok.hi
  have h5 := encAll_size s.txt
  obtain ⟨st, out, txt, l, bd⟩ := s
  simp only at h1 h2 h3 h4 h5
  cases st
  · exact between_any B b _ c w hB h (by simp; omega) (by simp; omega) (by simp; omega) hc
  · exact remark_any B b _ c w hB h (by simp; omega) (by simp; omega) (by simp; omega) hc
  · exact word_any B b _ c w hB h (by simp; omega) (by simp; omega) (by simp; omega) (by simp; omega) hc
  · exact number_any B b _ c w hV hB h (by simp; omega) (by simp; omega) (by simp; omega) (by simp; omega) hc (by simp; omega)
theorem Vars.start {w wr : World} (h : Vars w.heap.size w.heap.size w) (hb : Below w.heap.size w wr) : Vars (w.heap.size + 2) w.heap.size wr := by
  obtain ⟨a, b, c, ⟨d1, d2⟩, ⟨e1, e2⟩, ⟨f1, f2⟩⟩ := h.but (But.of hb)
  exact ⟨a, b, c, ⟨by omega, d2⟩, ⟨by omega, e2⟩, ⟨by omega, f2⟩⟩
/-- What Tokens leaves. -/
def TokensLeft (s : ByteArray) (w : World) (e : Ending) (w' : World) : Prop :=
  ∃ v, e = .returned (.tuple #[v, .int .i64 (lexTokens s).2.1, .int .i64 (lexTokens s).2.2]) ∧ w'.ownsRow w.heap.size 40 4 v (lexTokens s).1.length (toks (lexTokens s).1) ∧ Below w.heap.size w w'
theorem decode_pos (s : ByteArray) (pos : Nat) : 1 ≤ (Utf8.decode s pos).2 := by
  simp only [Utf8.decode]
  repeat' split
  all_goals simp_all
theorem ScAt.iter {B b f : Nat} {out : List Tok} {txt : List Int} {l bd : Int} {w : World} (h : ScAt B b f out txt l bd w) {k : Nat} {s : ByteArray} {pos : Nat} (hk : w.heap[k]? = some (.stringIter s pos)) (pos' : Nat) : ScAt B b f out txt l bd (w.iterAt k s pos') := by
  obtain ⟨vo, vt, hB, hh, ho, ht⟩ := h
  have hn : ∀ {j : Nat} {cs : Array Value} {t : TypeId} {fr : Nat × Nat}, w.heap[j]? = some (.cells cs t fr) → j ≠ k := fun h e => by rw [e, hk] at h; cases h
  refine ⟨vo, vt, hB, (Lib.iterAt_other w k b s pos' (hn hh)).trans hh, own_kept ho (fun j hj => Lib.iterAt_other w k j s pos' ?_), own_kept ht (fun j hj => Lib.iterAt_other w k j s pos' ?_)⟩
  · rcases ho.2 with ⟨rfl, _⟩ | ⟨g, cap, cur, rfl, _, hg, _⟩
    · simp [Value.ownBlock] at hj
    · obtain rfl : g = j := by simpa [Value.ownBlock] using hj
      exact hn hg
  · rcases ht.2 with ⟨rfl, _⟩ | ⟨g, cap, cur, rfl, _, hg, _⟩
    · simp [Value.ownBlock] at hj
    · obtain rfl : g = j := by simpa [Value.ownBlock] using hj
      exact hn hg
/-- At the head of the loop over the runes. -/
structure LexRel (s : ByteArray) (B N g : Nat) (wx : World) (pos k : Nat) (sc : Sc) : Prop where
  it : wx.heap[N + 1]? = some (.stringIter s pos)
  at_ : sc.At B N wx
  ok : sc.Ok k
  bound : k + g ≤ s.size ∧ s.size ≤ pos + g
  good : ¬ 0 < sc.bad
  rest : lexAll Sc.init (runesOf s ++ [10]) = lexAll sc (runesFrom s g pos ++ [10])
set_option maxHeartbeats 4000000 in
set_option maxRecDepth 100000 in
theorem tokens_any (s : ByteArray) (hs : s.size ≤ 100000000) (w : World) (hV : Vars w.heap.size w.heap.size w) : Calls Tryd.prog 8 #[.string s] w fun e w' => TokensLeft s w e w' := by
  have HV := Lib.hid hV
  have HS := Lib.hid hs
  clear hV hs
  go_enter Tryd.func8, Tryd.ntmps8
  go_wp2_with fail
  go_loopg [7] s.size (fun g _ wx => Hid (Below w.heap.size w wx) ∧ Hid (w.heap.size + 2 ≤ wx.heap.size) ∧ ∃ pos k sc, LexRel s (w.heap.size + 2) w.heap.size g wx pos k sc)
  case atStart =>
    refine ⟨Lib.hid (((Below.refl _ w).alloc (Nat.le_refl _) _).alloc (by simp) _), Lib.hid (by simp [World.iter]), 0, 0, Sc.init, ?_, ?_, ?_, ?_, ?_, rfl⟩
    · exact hp_new _ _ (by simp)
    · exact ⟨_, _, trivial, hp_old _ (hp_new _ _ rfl), World.ownsRow_nil _ _ _ _, World.ownsRow_nil _ _ _ _⟩
    · exact ⟨by simp [Sc.init], by simp [Sc.init], by simp [Sc.init], by simp [Sc.init], by simp [Sc.init]⟩
    · omega
    · simp [Sc.init]
  case round =>
    obtain ⟨HB, HN, pos, k, sc, hr⟩ := hrel
    by_cases hlt : pos < s.size
    · obtain ⟨g, rfl⟩ : ∃ g, gk = g + 1 := ⟨gk - 1, by have := hr.bound; omega⟩
      have hnx := fun ty => Lib.run_next_any_at (P := Tryd.prog) wr (w.heap.size + 1) s pos ty hr.it hlt
      have hit1 := Lib.iterAt_heap wr _ s pos (pos + (Utf8.decode s pos).2) hr.it
      have hat1 := hr.at_.iter hr.it (pos + (Utf8.decode s pos).2)
      have hbl1 := Lib.below_iterAt HB.out (k := w.heap.size + 1) (by omega) s (pos + (Utf8.decode s pos).2)
      have hn1 : w.heap.size + 2 ≤ (wr.iterAt (w.heap.size + 1) s (pos + (Utf8.decode s pos).2)).heap.size := by rw [Lib.iterAt_size]; exact HN.out
      have hrn : runesFrom s (g + 1) pos = ((Utf8.decode s pos).1 : Int) :: runesFrom s g (pos + (Utf8.decode s pos).2) := by rw [runesFrom, if_pos hlt]
      have hw1 := decode_pos s pos
      generalize wr.iterAt (w.heap.size + 1) s (pos + (Utf8.decode s pos).2) = w1 at hnx hit1 hat1 hbl1 hn1
      obtain ⟨c, hc⟩ : ∃ c : Nat, (Utf8.decode s pos).1 = c := ⟨_, rfl⟩
      obtain ⟨wd, hwd⟩ : ∃ x : Nat, (Utf8.decode s pos).2 = x := ⟨_, rfl⟩
      rw [hc] at hnx hrn
      rw [hwd] at hit1 hrn hw1
      have HR := Lib.hid hr
      have HRN := Lib.hid hrn
      have HIT := Lib.hid hit1
      have HAT := Lib.hid hat1
      have HB1 := Lib.hid hbl1
      have HN1 := Lib.hid hn1
      have HW := Lib.hid hw1
      obtain ⟨st, out, txt, l, bd⟩ := sc
      obtain ⟨vo, vt, hb, hh, ho, ht⟩ := hat1
      have hcf : ∀ (args : Array Value) (w : World), (callFunc st.f args).run Tryd.prog w = .ok (.enter st.f args) w := by
        cases st
        · exact enters_fn Tryd.func15 (by kernel_rfl) rfl
        · exact enters_fn Tryd.func19 (by kernel_rfl) rfl
        · exact enters_fn Tryd.func22 (by kernel_rfl) rfl
        · exact enters_fn Tryd.func24 (by kernel_rfl) rfl
      have c0 : w1.cell? ⟨w.heap.size, 0, none⟩ = some (.func (.func st.f) #[.pointer (some ⟨w.heap.size, 0, none⟩)] #[]) := cell_of hh 0 _ rfl
      clear hr ho ht hh hn1 hit1 hbl1 hrn hw1 hc hwd hlt
      go_wp2_with fail
      refine (step_calls _ _ k ⟨st, out, txt, l, bd⟩ (c : Int) _ (HV.out.start HB1.out) HN1.out HAT.out HR.out.ok (by have := HR.out.bound; have := HS.out; omega) (by omega)).mono ?_
      rintro e w2 ⟨rfl, hs2, hb2⟩
      have HB2 := Lib.hid (HB1.out.trans (hb2.toBelow (by omega) (Nat.le_refl _)))
      have HN2 := Lib.hid (Nat.le_trans HN1.out hb2.size)
      have HIT2 : Hid (w2.heap[w.heap.size + 1]? = some (.stringIter s (pos + wd))) := Lib.hid (hb2.hp HIT.out (by omega) (by omega))
      have HE : Hid (lexAll Sc.init (runesOf s ++ [10]) = if 0 < (Sc.step ⟨st, out, txt, l, bd⟩ (c : Int)).bad then Sc.step ⟨st, out, txt, l, bd⟩ (c : Int) else lexAll (Sc.step ⟨st, out, txt, l, bd⟩ (c : Int)) (runesFrom s g (pos + wd) ++ [10])) := Lib.hid (by rw [HR.out.rest, HRN.out]; rfl)
      have HK := Lib.hid (ok_step k _ (c : Int) HR.out.ok)
      generalize Sc.step ⟨st, out, txt, l, bd⟩ (c : Int) = z at hs2 HE HK
      have HZ := Lib.hid hs2
      obtain ⟨zst, zout, ztxt, zl, zbd⟩ := z
      obtain ⟨vo2, vt2, _, hh2, ho2, ht2⟩ := hs2
      have HO2 := Lib.hid ho2
      have c4 := cell_of hh2 4 _ rfl
      clear hb2 ho2 ht2 hh2
      by_cases hz : 0 < zbd
      · have HF : Hid (lexTokens s = ([], zbd, 30)) := Lib.hid (by unfold lexTokens; rw [HE.out]; simp only [if_pos hz])
        go_wp2_with fail
        go_quiet (fail)
        go_wp2_with fail
        go_ret3
        rw [TokensLeft, HF.out]
        exact ⟨_, rfl, World.ownsRow_nil _ _ _ _, below_drewN HB2.out _⟩
      · have HZ0 := Lib.hid hz
        go_wp2_with fail
        go_roundg g
        case measure => omega
        case rel => exact ⟨HB2, HN2, pos + wd, k + 1, _, HIT2.out, HZ.out, HK.out, by have := HR.out.bound; have := HW.out; omega, Int.not_lt.2 HZ0.out, by rw [HE.out]; exact if_neg (Int.not_lt.2 HZ0.out)⟩
    · have hnx := fun ty => Lib.run_next_end_at (P := Tryd.prog) wr (w.heap.size + 1) s pos ty hr.it hlt
      have HRN : Hid (runesFrom s gk pos = []) := Lib.hid (by cases gk <;> simp [runesFrom, hlt])
      have HR := Lib.hid hr
      obtain ⟨st, out, txt, l, bd⟩ := sc
      obtain ⟨vo, vt, hb, hh, ho, ht⟩ := hr.at_
      have hcf : ∀ (args : Array Value) (w : World), (callFunc st.f args).run Tryd.prog w = .ok (.enter st.f args) w := by
        cases st
        · exact enters_fn Tryd.func15 (by kernel_rfl) rfl
        · exact enters_fn Tryd.func19 (by kernel_rfl) rfl
        · exact enters_fn Tryd.func22 (by kernel_rfl) rfl
        · exact enters_fn Tryd.func24 (by kernel_rfl) rfl
      have c0 : wr.cell? ⟨w.heap.size, 0, none⟩ = some (.func (.func st.f) #[.pointer (some ⟨w.heap.size, 0, none⟩)] #[]) := cell_of hh 0 _ rfl
      clear hr ho ht
      go_wp2_with fail
      refine (step_calls _ _ k ⟨st, out, txt, l, bd⟩ 10 _ (HV.out.start HB.out) HN.out HR.out.at_ HR.out.ok (by have := HR.out.bound; have := HS.out; omega) (by omega)).mono ?_
      rintro e w2 ⟨rfl, hs2, hb2⟩
      have HB2 := Lib.hid (HB.out.trans (hb2.toBelow (by omega) (Nat.le_refl _)))
      have HE : Hid (lexAll Sc.init (runesOf s ++ [10]) = Sc.step ⟨st, out, txt, l, bd⟩ 10) := Lib.hid (by rw [HR.out.rest, HRN.out]; simp only [List.nil_append, lexAll]; split <;> rfl)
      have HK := Lib.hid (ok_step k _ 10 HR.out.ok)
      generalize Sc.step ⟨st, out, txt, l, bd⟩ 10 = z at hs2 HE HK
      obtain ⟨zst, zout, ztxt, zl, zbd⟩ := z
      obtain ⟨vo2, vt2, _, hh2, ho2, ht2⟩ := hs2
      have HO2 := Lib.hid ho2
      have c1 := cell_of hh2 1 _ rfl
      have c4 := cell_of hh2 4 _ rfl
      clear hb2 ho2 ht2 hh2
      by_cases hz : 0 < zbd
      · have HF : Hid (lexTokens s = ([], zbd, 30)) := Lib.hid (by unfold lexTokens; rw [HE.out]; simp only [if_pos hz])
        go_wp2_with fail
        go_quiet (fail)
        go_wp2_with fail
        go_ret3
        rw [TokensLeft, HF.out]
        exact ⟨_, rfl, World.ownsRow_nil _ _ _ _, below_drewN HB2.out _⟩
      · have HF : Hid (lexTokens s = (zout, 0, 0)) := Lib.hid (by unfold lexTokens; rw [HE.out]; simp only [if_neg hz])
        go_wp2_with fail
        go_ret3
        rw [TokensLeft, HF.out]
        exact ⟨_, rfl, own_low HO2.out (by omega), HB2.out⟩
end Go.Proofs.YthpilhmfcbdeiaaDoor
