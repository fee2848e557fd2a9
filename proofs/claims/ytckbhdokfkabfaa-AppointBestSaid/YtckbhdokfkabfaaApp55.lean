/-
  Chapter 55: Appoint of the program: the walk.
-/
import Derived.Test.YtckbhdokfkabfaaAps55
set_option linter.unusedSimpArgs false
set_option linter.unusedVariables false
namespace Go.Proofs.Ytckbhdokfkabfaa
open Go.RowKit
set_option maxRecDepth 100000
set_option maxHeartbeats 40000000
structure Ca where
  b : Nat
  g : Nat
  cap : Nat
def caF (gm g7 : Nat) (xd : Int) (v : Value) (n : Nat) (x : Value) (a : Act) (z : Ca) : Act :=
  (((((((((((a.put (some 53) (.map (some gm))).put (some 54) (.pointer (some ⟨g7, 1, none⟩))).put (some 55) (.int .i64 xd)).put (some 56) (.map (some gm))).put (some 57) (.pointer (some ⟨g7, 1, none⟩))).put (some 58) (.int .i64 xd)).put (some 59) v).put (some 60) x).put (some 61) (.slice (some ⟨z.b, 0, none⟩) 1 1)).put (some 62) (.slice (some ⟨z.g, 0, none⟩) (n + 1) z.cap)).put none undef)
def prV (p : Int × Int) : Value := .agg #[.int .i64 p.1, .int .i64 p.2]
def cbF (gp g7 : Nat) (ym : Int) (bX i : Nat) (v : Value) (a : Act) (_ : Unit) : Act :=
  (((((((a.put (some 124) (.map (some gp))).put (some 125) (.pointer (some ⟨g7, 0, none⟩))).put (some 126) (.int .i64 ym)).put (some 127) (.pointer (some ⟨bX, 0, none⟩))).put (some 128) (.int .i64 i)).put (some 129) v).put none undef)
def ccF (bB offB nU d g7 g8 : Nat) (xm : Int) (pa pb : Nat) (A9 : Option Addr) (c9 n : Nat) (na nb : ByteArray) (a : Act) (z : Ca) : Act :=
  (((((((((((((((((((a.put (some 142) (.slice A9 n c9)).put (some 143) (.pointer (some ⟨g7, 0, none⟩))).put (some 144) (.int .i64 xm)).put (some 145) (.slice (some ⟨bB, offB, none⟩) nU d)).put (some 146) (.pointer (some ⟨g8, 0, none⟩))).put (some 147) (.int .i64 pa)).put (some 148) (.pointer (some ⟨bB, offB + pa * 3, none⟩))).put (some 149) (.pointer (some ⟨bB, offB + pa * 3, none⟩))).put (some 150) (.string na)).put (some 151) (.slice (some ⟨bB, offB, none⟩) nU d)).put (some 152) (.pointer (some ⟨g8, 1, none⟩))).put (some 153) (.int .i64 pb)).put (some 154) (.pointer (some ⟨bB, offB + pb * 3, none⟩))).put (some 155) (.pointer (some ⟨bB, offB + pb * 3, none⟩))).put (some 156) (.string nb)).put (some 157) (.agg #[.int .i64 xm, .string na, .string nb])).put (some 158) (.slice (some ⟨z.b, 0, none⟩) 1 1)).put (some 159) (.slice (some ⟨z.g, 0, none⟩) (n + 1) z.cap)).put (some 25) (.slice (some ⟨z.g, 0, none⟩) (n + 1) z.cap))
theorem own_adB {A : Option Addr} {n c b : Nat} (h : b ∈ adB A) : (Value.slice A n c).ownBlock = some b := by
  cases A with
  | none => simp [adB] at h
  | some a => simp [adB] at h; subst h; rfl
theorem DyR.own_lt {B g : Nat} {F : Int → Value} {l : List Dty} {w : World} (h : DyR B g F l w) : ∀ d b, (F d).ownBlock = some b → b < w.heap.size := by
  intro d b e
  obtain ⟨A', c', e2⟩ := own_form (h.row d)
  have hr := h.row d
  rw [e2] at hr e
  exact (own_in hr b (adB_own e)).2
theorem days_add {B g g9 cap9 g7 e7 : Nat} {F : Int → Value} {l l' : List Dty} {A9 : Option Addr} {c9 : Nat} {L9 : List Int} {w w3 w4 w5 : World} {xd : Int} {xs : List Value} (h : DzR B g F l A9 c9 w3) (hb4 : Below w3.heap.size w3 w4) (hb3 : Below w.heap.size w w3) (hk : Blk w3 g7 e7 xs)
    (hL : daysL l = L9) (hds : daysL l' = L9 ++ [xd]) (hBw : B = w.heap.size) (hg7 : g7 ∉ adB A9)
    (ha : App w4 w5 B 2 1 (.slice A9 L9.length c9) g9 cap9 L9.length 1 (L9.flatMap iE) (iE xd)) :
    DyR B g F l w5 ∧ OwnL iE 1 2 B w5 (.slice (some ⟨g9, 0, none⟩) (daysL l').length cap9) (daysL l') ∧ (∀ b ∈ adB (some (⟨g9, 0, none⟩ : Addr)), b ≠ g ∧ ∀ d, (F d).ownBlock ≠ some b) ∧ Below w.heap.size w w5 ∧ Blk w5 g7 e7 xs := by
  subst hL
  have h4 := h.to hb4
  have hs4 := hb4.size
  have hF : Far (adB A9) w4 w5 := Far.grown ha.grown (fun b hb => adB_own hb)
  have hg9 : g9 ∈ adB A9 ∨ w3.heap.size ≤ g9 := by
    rcases ha.at_ with e | e
    · exact Or.inl (adB_own e)
    · exact Or.inr (by omega)
  refine ⟨h4.dy.far hF (fun e => (h.ne g e).1 rfl) (fun d b hb e => (h.ne b e).2 d hb), ?_, fun b hb => ?_, ?_, (hk.to hb4).far hF hg7⟩
  · rw [hds]
    have ho : OwnL iE 1 2 B w5 (.slice (some ⟨g9, 0, none⟩) ((daysL l).length + 1) cap9) (daysL l ++ [xd]) := ha.one rfl
    rw [List.length_append]
    exact ho
  · simp [adB] at hb
    subst hb
    rcases hg9 with e | e
    · exact h.ne b e
    · refine ⟨fun x => by have := h.dy.lt; omega, fun d x => ?_⟩
      obtain ⟨A', c', e2⟩ := own_form (h.dy.row d)
      have hr := h.dy.row d
      rw [e2] at hr x
      have := (own_in hr b (adB_own x)).2
      omega
  · exact (cur_step1 hb3 hb4).trans (hF.below (cur_step1 hb3 hb4).size (fun y hy => by have := (own_in h.ds y hy).1; omega))
theorem day_put {B g g8 cap8 : Nat} {F : Int → Value} {l l' : List Dty} {A9 A6 : Option Addr} {c9 c6 n : Nat} {w ws u0 u2 u3 u4 : World} {x : Dty} (h : DyR B g F l u0) (hb : Below u0.heap.size u0 u2) (hF : F x.d = .slice A6 (dOn l x.d).length c6)
    (ha : App u2 u3 B 29 4 (.slice A6 (dOn l x.d).length c6) g8 cap8 (dOn l x.d).length 1 ((dOn l x.d).flatMap dtE) (dtE x))
    (hm : MpV u4 2 g n (.slice none 0 0) (putI F x.d (.slice (some ⟨g8, 0, none⟩) ((dOn l x.d).length + 1) cap8))) (hg : u3.grownBy u4 (some g)) (hn : n ≤ l.length + 1)
    (hds : OwnL iE 1 2 B ws (.slice A9 (daysL l').length c9) (daysL l')) (hne : ∀ b ∈ adB A9, b ≠ g ∧ ∀ d, (F d).ownBlock ≠ some b) (hbu : Below ws.heap.size ws u0) (hbw : Below w.heap.size w ws) (hl : l' = l ++ [x]) (hBw : B = w.heap.size) (hFw : ∀ d b, (F d).ownBlock = some b → b < ws.heap.size) :
    DzR B g (putI F x.d (.slice (some ⟨g8, 0, none⟩) ((dOn l x.d).length + 1) cap8)) l' A9 c9 u4 ∧ Below w.heap.size w u4 := by
  subst hBw
  have hf3 : Far (adB A6) u2 u3 := Far.grown ha.grown (fun b hb => adB_own hb)
  have hf4 : Far [g] u3 u4 := Far.grown hg (fun b hb => by injection hb with hb; simp [hb])
  have hA6 : ∀ b ∈ adB A6, (F x.d).ownBlock = some b := fun b hb => by rw [hF]; exact own_adB hb
  have hg8 : g8 ∈ adB A6 ∨ u0.heap.size ≤ g8 := by
    rcases ha.at_ with e | e
    · exact Or.inl (adB_own e)
    · exact Or.inr (by have := hb.size; omega)
  have hsz := hbu.size
  refine ⟨⟨?_, ?_, fun b hb' => ⟨(hne b hb').1, fun d e => ?_⟩⟩, ?_⟩
  · rw [hl]; exact h.next hb hF ha hm hg hn
  · refine own_far (own_far (own_below (own_below hds hbu (Nat.le_refl _)) hb (Nat.le_refl _)) hf3 (fun b hb' e => (hne b hb').2 x.d (hA6 b e))) hf4 (fun b hb' => by simp; exact (hne b hb').1)
  · unfold putI at e
    by_cases hd : d = x.d
    · rw [if_pos hd] at e
      have e' : g8 = b := Option.some.inj e
      subst e'
      rcases hg8 with k | k
      · exact (hne g8 hb').2 x.d (hA6 g8 k)
      · have := (own_in hds g8 hb').2; omega
    · rw [if_neg hd] at e
      exact (hne b hb').2 d e
  · have h1 : Below w.heap.size w u2 := cur_step1 (cur_step1 hbw hbu) hb
    exact (h1.trans (hf3.below h1.size (fun y hy => by
      obtain ⟨A', c', e2⟩ := own_form (h.row x.d)
      have hr := h.row x.d
      have h3 := hA6 y hy
      rw [e2] at hr h3
      exact (own_in hr y (adB_own h3)).1))).trans (hf4.below (Nat.le_trans h1.size hf3.size) (fun y hy => by simp at hy; subst hy; exact h.ge))
theorem fresh_rep (n : Nat) : Fresh (List.replicate n (-1)) := fun u => by
  unfold uG
  rw [List.getElem?_replicate]
  split
  · exact Or.inr rfl
  · exact Or.inl rfl
theorem sorted_len : ∀ (l : List Nat) (k n : Nat), l.Pairwise (· < ·) → (∀ x ∈ l, k ≤ x) → (∀ x ∈ l, x < n) → l ≠ [] → l.length + k ≤ n := by
  intro l
  induction l with
  | nil => intro k n _ _ _ h; exact (h rfl).elim
  | cons a l ih =>
    intro k n hp hk hn _
    rw [List.pairwise_cons] at hp
    have ha := hk a (by simp)
    have hb := hn a (by simp)
    cases l with
    | nil => simp; omega
    | cons b l =>
      have := ih (k + 1) n hp.2 (fun x hx => by have := hp.1 x hx; omega) (fun x hx => hn x (by simp [hx])) (by simp)
      simp at this ⊢
      omega
theorem find_at {l : List Int} {p : Int → Bool} {k : Nat} {d : Int} (h : l[k]? = some d) (hb : ∀ x ∈ l.take k, p x = false) (hd : p d = true) : l.find? p = some d := by
  have hk := List.getElem?_eq_some_iff.1 h
  have e : l = l.take k ++ (d :: l.drop (k + 1)) := by
    rw [← hk.2, ← List.drop_eq_getElem_cons hk.1, List.take_append_drop]
  rw [e, List.find?_append, List.find?_eq_none.2 (fun x hx => by rw [hb x hx]; simp)]
  simp [hd]
theorem putAll_mem (f : Int → Int × Int) (i : Int) : ∀ l : List (Int × (Int × Int)), (∃ e ∈ l, e.1 = i) → ∃ e ∈ l, e.1 = i ∧ putAll f l i = e.2 := by
  refine list_snoc (P := fun l => (∃ e ∈ l, e.1 = i) → ∃ e ∈ l, e.1 = i ∧ putAll f l i = e.2) (fun h => by obtain ⟨e, he, _⟩ := h; simp at he) (fun l x ih h => ?_)
  rw [putAll_snoc]
  by_cases e : i = x.1
  · exact ⟨x, by simp, e.symm, by dsimp only; rw [if_pos e]⟩
  · obtain ⟨y, hy, hyi⟩ := h
    rcases List.mem_append.1 hy with k | k
    · obtain ⟨z, z1, z2, z3⟩ := ih ⟨y, k, hyi⟩
      exact ⟨z, by simp [z1], z2, by dsimp only; rw [if_neg e]; exact z3⟩
    · simp at k
      subst k
      exact (e hyi.symm).elim
theorem dayF_len (may : List (List Bool)) (n : Nat) : ∀ (k i : Nat) (need : List Nat) (us : List Int), (dayF may n k i need us).length = k := by
  intro k
  induction k with
  | zero => intro i need us; rfl
  | succ k ih => intro i need us; unfold dayF; simp [ih]
theorem feas_bad {M : List Dty} {U : List Ump} (h : badD M U = none) {d : Int} (hd : dOn M d ≠ []) : Feas (mayD M U d) (dOn M d).length (List.replicate (dOn M d).length 2) (List.replicate U.length (-1)) := by
  unfold badD at h
  rw [List.find?_eq_none] at h
  have h1 := h d ((sortL_mem _ d).2 ((days_mem M d).2 hd))
  unfold badB at h1
  have h2 : (lkD M U d).1 = [] := List.eq_nil_of_length_eq_zero (by simpa using h1)
  exact (fill_iff (n := U.length) (by simp) (by simp) (fresh_rep U.length)).1 h2
theorem pair_day {M : List Dty} {U : List Ump} (h : badD M U = none) {d : Int} (hd : dOn M d ≠ []) :
    ∃ P : List (Nat × Nat), pairsD M U d = P.map castP ∧ P.length = (dOn M d).length ∧ PairsOk (mayD M U d) (List.replicate U.length (-1)) 0 P ∧ (∀ p ∈ P, p.1 < U.length ∧ p.2 < U.length) ∧
      ∀ Q, Q.length = (dOn M d).length → PairsOk (mayD M U d) (List.replicate U.length (-1)) 0 Q → ∀ (j : Nat) (p q : Nat × Nat), P.take j = Q.take j → P[j]? = some p → Q[j]? = some q → p.1 < q.1 ∨ p.1 = q.1 ∧ p.2 ≤ q.2 := by
  have h1 := day_spec (may := mayD M U d) (nm := (dOn M d).length) (by unfold mayD; simp) (dOn M d).length 0 _ (List.replicate U.length (-1)) (by omega) (NeedAt.start _) (fresh_rep _) (feas_bad h hd)
  rw [List.length_replicate] at h1
  exact h1
theorem pair_rng {M : List Dty} {U : List Ump} (h : badD M U = none) : ∀ x ∈ M, ∃ a b : Nat, pairF M U x.m = ((a : Int), (b : Int)) ∧ a < U.length ∧ b < U.length := by
  intro x hx
  have hxd : x ∈ dOn M x.d := by unfold dOn; rw [List.mem_filter]; exact ⟨hx, by simp⟩
  have hne : dOn M x.d ≠ [] := fun e => by rw [e] at hxd; simp at hxd
  have hex : ∃ e ∈ pairL M U (sortL (daysL M)), e.1 = x.m := by
    obtain ⟨P, e1, e2, _⟩ := pair_day h hne
    obtain ⟨j, hj, hje⟩ := List.getElem_of_mem hxd
    have hz : (((dOn M x.d).map Dty.m).zip (pairsD M U x.d))[j]? = some (x.m, (pairsD M U x.d)[j]'(by rw [e1, List.length_map, e2]; exact hj)) :=
      (List.getElem?_zip_eq_some (z := (x.m, _))).2 ⟨by rw [List.getElem?_map, List.getElem?_eq_getElem hj, hje]; rfl, List.getElem?_eq_getElem _⟩
    exact ⟨_, List.mem_flatMap.2 ⟨x.d, (sortL_mem _ _).2 ((days_mem M _).2 hne), List.mem_of_getElem? hz⟩, rfl⟩
  obtain ⟨e, he, _, hpe⟩ := putAll_mem (fun _ => (0, 0)) x.m _ hex
  unfold pairF
  rw [hpe]
  obtain ⟨d, hd, hed⟩ := List.mem_flatMap.1 he
  have hdn : dOn M d ≠ [] := (days_mem M d).1 ((sortL_mem _ d).1 hd)
  obtain ⟨P, e1, _, _, e4, _⟩ := pair_day h hdn
  have h2 : e.2 ∈ pairsD M U d := (List.of_mem_zip hed).2
  rw [e1] at h2
  obtain ⟨p, hp, hpe2⟩ := List.mem_map.1 h2
  exact ⟨p.1, p.2, by rw [← hpe2]; rfl, (e4 p hp).1, (e4 p hp).2⟩
theorem appoint_p (A B : Option Addr) (c d : Nat) (M : List Dty) (U : List Ump) (w : World) (h : TaskR w A B M U) :
    Calls Try.prog 16 #[.slice A M.length c, .slice B U.length d] w fun e w' => (∃ A1 c1 A2 c2, e = .returned (.tuple #[.slice A1 (appR M U).1.length c1, .slice A2 (appR M U).2.1.length c2, .int .i64 (appR M U).2.2]) ∧ Rd apE 3 w' w'.heap.size A1 (appR M U).1 ∧ Rd iE 1 w' w'.heap.size A2 (appR M U).2.1) ∧ Below w.heap.size w w' := by
  have H := Lib.hid h
  clear h
  have hmk1 : ∀ w, Sem.run Try.prog (Instr.makeMap 58 none) w = .ok (.map (some w.heap.size)) (w.alloc (.map #[] 0)) := fun w => run_makeMap _ w
  have hmk2 : ∀ w, Sem.run Try.prog (Instr.makeMap 64 none) w = .ok (.map (some w.heap.size)) (w.alloc (.map #[] 0)) := fun w => run_makeMap _ w
  go_enter Try.func16, Try.ntmps16
  go_wp2_with (fail)
  obtain ⟨ck, hck⟩ : ∃ q, ckA M U = q := ⟨_, rfl⟩
  refine (check_p A B c d M U ck w H.out hck).mono ?_
  rintro e w1 ⟨rfl, hb1⟩
  have HB1 := Lib.hid hb1
  clear hb1
  by_cases hc0 : ck = 0
  · subst hc0
    have HOK := Lib.hid (ck_ok hck)
    have HRB := Lib.hid (show ∀ d, badD M U = some d → appR M U = ([], numsD M U d, 13) from fun d hd => by unfold appR; rw [if_neg (by simp [hck]), hd])
    have HRN := Lib.hid (show badD M U = none → appR M U = (M.map (outE M U), [], 0) from fun hd => by unfold appR; rw [if_neg (by simp [hck]), hd])
    clear hck
    have hm200 : M.length ≤ 200 := HOK.out.ml
    have hu100 : U.length ≤ 100 := HOK.out.ul
    have HDY0 := Lib.hid (DyR.made (B := w.heap.size) (w := w1) HB1.out.size)
    obtain ⟨w2, hw2⟩ : ∃ W, w1.alloc (.map #[] 0) = W := ⟨_, rfl⟩
    have hb2 : Below w1.heap.size w1 w2 := by rw [← hw2]; exact cur_new _ _
    obtain ⟨gm, hgm⟩ : ∃ q, w1.heap.size = q := ⟨_, rfl⟩
    have HGM := Lib.hid (show w.heap.size ≤ gm by rw [← hgm]; exact HB1.out.size)
    rw [hw2, hgm] at HDY0
    have HZ0 := Lib.hid (show DzR w.heap.size gm (fun _ => .slice none 0 0) [] none 0 w2 from ⟨HDY0.out, World.ownsRow_nil _ _ _ _, (fun b hb => by simp [adB] at hb)⟩)
    have HB2 := Lib.hid (cur_step1 HB1.out hb2)
    have S2 := Lib.hid hw2
    have SG := Lib.hid hgm
    clear hw2 hgm hb2 HDY0
    go_upto_region 5 with (fail)
    rw [SG.out, S2.out]
    go_wp2_with (fail)
    go_loopw [9, 38] (fun v iv wr => ∃ (k : Nat) (F : Int → Value) (A9 : Option Addr) (c9 : Nat), k ≤ M.length ∧ v = .slice A9 (daysL (M.take k)).length c9 ∧ iv = .int .i64 k ∧ DzR w.heap.size gm F (M.take k) A9 c9 wr ∧ Below w.heap.size w wr) (fun _ i _ => M.length - (intOf i).toNat)
    case atStart => exact ⟨0, _, none, 0, by omega, rfl, rfl, HZ0.out, HB2.out⟩
    case round =>
      clear HZ0 HB2 S2 SG
      obtain ⟨k, F, A9, c9, hk, rfl, rfl, hz, hb⟩ := hrel
      have HZ := Lib.hid hz
      have HB := Lib.hid hb
      clear hz hb
      by_cases hkl : k < M.length
      · obtain ⟨x0, hx⟩ : ∃ x, M[k]? = some x := ⟨_, List.getElem?_eq_getElem hkl⟩
        have hrg := HOK.out.rng x0 (List.mem_of_getElem? hx)
        obtain ⟨xm, xd, xh, xa⟩ := x0
        dsimp only at hrg
        obtain ⟨b1, off1, hA1, hb1l, hcl⟩ := H.out.m.at_ HB.out hx
        obtain ⟨c0, c1, c2, c3⟩ := dt_cells hcl
        dsimp only at c0 c1 c2 c3
        have hb1w : b1 < wr.heap.size := Nat.lt_of_lt_of_le hb1l HB.out.size
        have HTK := Lib.hid (show M.take (k + 1) = M.take k ++ [⟨xm, xd, xh, xa⟩] by rw [List.take_add_one, hx]; rfl)
        have HWF := Lib.hid (wf_i (x := xd) (by omega) (by omega))
        rw [hA1]
        have HA1 := Lib.hid hA1
        clear hcl hx hrg hA1
        have hk200 : k < 200 := by omega
        go_upto_region 9 with (fail)
        have hb3 := cur_new wr (.cells #[.int .i64 xm, .int .i64 xd, .string xh, .string xa] 29)
        have hk3 := Blk.new wr 29 [.int .i64 xm, .int .i64 xd, .string xh, .string xa]
        generalize wr.alloc (.cells #[.int .i64 xm, .int .i64 xd, .string xh, .string xa] 29) = w3 at hb3 hk3 ⊢
        obtain ⟨g7, hg7⟩ : ∃ y, wr.heap.size = y := ⟨_, rfl⟩
        rw [hg7] at hk3 ⊢
        have HK3 := Lib.hid hk3
        have HG7 := Lib.hid (show w.heap.size ≤ g7 by rw [← hg7]; exact HB.out.size)
        have HB3 := Lib.hid (cur_step1 HB.out hb3)
        have HZ3 := Lib.hid (HZ.out.to hb3)
        have HG79 := Lib.hid (show g7 ∉ adB A9 from fun e => by have := (own_in HZ.out.ds g7 e).2; omega)
        have HG7A := Lib.hid (show ∀ d, (F d).ownBlock ≠ some g7 from fun d e => by have := HZ.out.dy.own_lt d g7 e; omega)
        clear hb3 hk3 hg7 c0 c1 c2 c3 HZ HB
        obtain ⟨A6, c6, hF, hrd6⟩ := HZ3.out.dy.rd xd
        obtain ⟨n6, hn6⟩ : ∃ n, (dOn (M.take k) xd).length = n := ⟨_, rfl⟩
        have hlk3 := (HZ3.out.dy.map).choose_spec.2.lookD HWF.out
        rw [hF] at hlk3
        have HF := Lib.hid hF
        have HN6 := Lib.hid hn6
        rw [hn6] at hlk3
        have HNL := Lib.hid (show n6 ≤ k by rw [← hn6]; exact Nat.le_trans (List.length_filter_le _ _) (by simp; omega))
        have e1 : w3.cell? ⟨g7, 1, none⟩ = some (.int .i64 xd) := HK3.out.cell 1
        have el := HK3.out.lt
        have HDN := Lib.hid (day_new (M.take k) xd)
        rw [hn6] at HDN
        clear hF hrd6 hn6
        obtain ⟨L9, hL9⟩ : ∃ L, daysL (M.take k) = L := ⟨_, rfl⟩
        have HL9 := Lib.hid hL9
        have HLL := Lib.hid (show L9.length ≤ k by rw [← hL9]; exact Nat.le_trans (days_len _) (by simp; omega))
        rw [hL9]
        by_cases hn0 : n6 = 0
        · have HDS := Lib.hid (show daysL (M.take (k + 1)) = L9 ++ [xd] by rw [HTK.out, daysL_snoc, HDN.out, hn0, hL9]; simp)
          have HO9 := Lib.hid (show OwnL iE 1 2 w.heap.size w3 (.slice A9 L9.length c9) L9 by rw [← hL9]; exact HZ3.out.ds)
          have hnd : ((n6 : Int) == 0) = true := by simp [hn0]
          clear hn0
          have hll : L9.length < 1000 := by have := HLL.out; omega
          obtain ⟨W4, hW4⟩ : ∃ y, w3.alloc (.cells (iE xd).toArray 2) = y := ⟨_, rfl⟩
          have HB4 := Lib.hid (show Below w3.heap.size w3 W4 by rw [← hW4]; exact cur_new _ _)
          have HK4 := Lib.hid (show W4.heap[w3.heap.size]? = some (.cells (iE xd).toArray 2 (0, 0)) by rw [← hW4]; exact heap_alloc_new _ _)
          have S4 := Lib.hid hW4
          have HS4 := Lib.hid (show w.heap.size ≤ W4.heap.size from Nat.le_trans HB3.out.size HB4.out.size)
          clear hW4 hL9
          go_upto_region 11 with (at_builtin; change wpList _ _ _ _ _ (w3.alloc (.cells (iE xd).toArray 2)); rw [S4.out]; refine wpList_app1 Try.i64Elem W4 rfl (.tmp 48) (.tmp 51) rfl w.heap.size A9 c9 L9 (by rfl) (own_below HO9.out HB4.out (Nat.le_refl _)) xd w3.heap.size 1 (by rfl) HK4.out (by unfold maxLen; omega) (by omega) HS4.out ?_; intro g9 cap9 w5 ha; have HA9 := Lib.hid ha; clear ha)
          have HZ5 := Lib.hid (show DyR w.heap.size gm F (M.take k) w5 ∧ OwnL iE 1 2 w.heap.size w5 (.slice (some ⟨g9, 0, none⟩) (daysL (M.take (k + 1))).length cap9) (daysL (M.take (k + 1))) ∧ (∀ b ∈ adB (some (⟨g9, 0, none⟩ : Addr)), b ≠ gm ∧ ∀ d, (F d).ownBlock ≠ some b) ∧ Below w.heap.size w w5 ∧ Blk w5 g7 29 [.int .i64 xm, .int .i64 xd, .string xh, .string xa] from days_add HZ3.out HB4.out HB3.out HK3.out HL9.out HDS.out rfl HG79.out HA9.out)
          rw [show L9.length + 1 = (daysL (M.take (k + 1))).length by rw [HDS.out]; simp]
          clear HA9 HK4 HS4 S4 HO9 hlk3 e1 el
          have HG7M := Lib.hid (show g7 ≠ gm from (HZ3.out.dy.map).choose_spec.2.ne HK3.out)
          have HG7N := Lib.hid (show g7 ∉ adB A6 from fun e => HG7A.out xd (by rw [HF.out]; exact own_adB e))
          refine wp_absA (caF gm g7 xd (.slice A6 n6 c6) n6 (.agg #[.int .i64 xm, .int .i64 xd, .string xh, .string xa])) (fun (z : Ca) (w' : World) => DzR w.heap.size gm (putI F xd (.slice (some ⟨z.g, 0, none⟩) (n6 + 1) z.cap)) (M.take (k + 1)) (some ⟨g9, 0, none⟩) cap9 w' ∧ Below w.heap.size w w') ?reg ?beh
          case reg =>
            refine wp_region_held_drew (S := fun w' => Blk w' g7 29 [.int .i64 xm, .int .i64 xd, .string xh, .string xa]) (by kernel_rfl) (HZ5.out.2.2.2.2.to (cur_drew w5 1)) (fun hS => ?_)
            obtain ⟨u0, hu0⟩ : ∃ W, w5.drew = W := ⟨_, rfl⟩
            have HBu0 := Lib.hid (show Below w5.heap.size w5 u0 by rw [← hu0]; exact cur_drew w5 1)
            have HDu0 := Lib.hid (HZ5.out.1.to HBu0.out)
            rw [hu0] at hS ⊢
            clear hu0
            refine wpAnyH_take (i := 0) (v := ?_) rfl (by kernel_rfl) (by kernel_rfl) (by kernel_rfl) (fun _ _ _ h => nomatch h.1) (Or.inl ⟨by rfl, ?_⟩) hS ?_
            rotate_left
            · intro w' _
              go_simp
              try with_reducible rfl
            refine wpAnyH_take (i := 1) (v := ?_) rfl (by kernel_rfl) (by kernel_rfl) (by kernel_rfl) (fun _ _ _ h => nomatch h.1) (Or.inl ⟨by rfl, ?_⟩) hS ?_
            rotate_left
            · intro w' _
              go_simp
              try with_reducible rfl
            refine wpAnyH_take (i := 2) (v := .int .i64 xd) rfl (by kernel_rfl) (by kernel_rfl) (by kernel_rfl) (fun _ _ _ h => nomatch h.1) (Or.inl ⟨by rfl, ?_⟩) hS ?_
            · intro w' hw'
              have q0 : w'.cell? ⟨g7, 0, none⟩ = some (.int .i64 xm) := hw'.cell 0
              have q1 : w'.cell? ⟨g7, 1, none⟩ = some (.int .i64 xd) := hw'.cell 1
              have q2 : w'.cell? ⟨g7, 2, none⟩ = some (.string xh) := hw'.cell 2
              have q3 : w'.cell? ⟨g7, 3, none⟩ = some (.string xa) := hw'.cell 3
              go_simp
            refine wpAnyH_take (i := 3) (v := ?_) rfl (by kernel_rfl) (by kernel_rfl) (by kernel_rfl) (fun _ _ _ h => nomatch h.1) (Or.inl ⟨by rfl, ?_⟩) hS ?_
            rotate_left
            · intro w' _
              go_simp
              try with_reducible rfl
            refine wpAnyH_take (i := 4) (v := ?_) rfl (by kernel_rfl) (by kernel_rfl) (by kernel_rfl) (fun _ _ _ h => nomatch h.1) (Or.inl ⟨by rfl, ?_⟩) hS ?_
            rotate_left
            · intro w' _
              go_simp
              try with_reducible rfl
            refine wpAnyH_take (i := 5) (v := .int .i64 xd) rfl (by kernel_rfl) (by kernel_rfl) (by kernel_rfl) (fun _ _ _ h => nomatch h.1) (Or.inl ⟨by rfl, ?_⟩) hS ?_
            · intro w' hw'
              have q0 : w'.cell? ⟨g7, 0, none⟩ = some (.int .i64 xm) := hw'.cell 0
              have q1 : w'.cell? ⟨g7, 1, none⟩ = some (.int .i64 xd) := hw'.cell 1
              have q2 : w'.cell? ⟨g7, 2, none⟩ = some (.string xh) := hw'.cell 2
              have q3 : w'.cell? ⟨g7, 3, none⟩ = some (.string xa) := hw'.cell 3
              go_simp
            refine wpAnyH_take (i := 7) (v := .agg #[.int .i64 xm, .int .i64 xd, .string xh, .string xa]) rfl (by kernel_rfl) (by kernel_rfl) (by kernel_rfl) (fun _ _ _ h => nomatch h.1) (Or.inl ⟨by rfl, ?_⟩) hS ?_
            · intro w' hw'
              have q0 : w'.cell? ⟨g7, 0, none⟩ = some (.int .i64 xm) := hw'.cell 0
              have q1 : w'.cell? ⟨g7, 1, none⟩ = some (.int .i64 xd) := hw'.cell 1
              have q2 : w'.cell? ⟨g7, 2, none⟩ = some (.string xh) := hw'.cell 2
              have q3 : w'.cell? ⟨g7, 3, none⟩ = some (.string xa) := hw'.cell 3
              go_simp
            refine wpAnyH_ready (rs := [6, 8]) (by kernel_rfl) (by simp) ?_
            refine AllReadyH.cons rfl (fun K' hK => ?_) (AllReadyH.cons rfl (fun K' hK => ?_) AllReadyH.nil)
            · have hlk := (HDu0.out.map).choose_spec.2.lookD HWF.out
              rw [HF.out, HN6.out] at hlk
              go_simp
              refine hK.out _ _ hS (fun hS => ?_)
              clear hK K' hlk
              refine wpAnyH_ready (rs := [8]) (by kernel_rfl) (by simp) ?_
              refine AllReadyH.cons rfl (fun K' hK => ?_) AllReadyH.nil
              go_simp
              obtain ⟨u2, hu2⟩ : ∃ y, u0.alloc (.cells (dtE ⟨xm, xd, xh, xa⟩).toArray 29) = y := ⟨_, rfl⟩
              have HBu2 := Lib.hid (show Below u0.heap.size u0 u2 by rw [← hu2]; exact cur_new _ _)
              have HKu2 := Lib.hid (show u2.heap[u0.heap.size]? = some (.cells (dtE ⟨xm, xd, xh, xa⟩).toArray 29 (0, 0)) by rw [← hu2]; exact heap_alloc_new _ _)
              have HDu2 := Lib.hid (HDu0.out.to HBu2.out)
              refine hK.out _ _ (show Blk (u0.alloc (.cells (dtE ⟨xm, xd, xh, xa⟩).toArray 29)) g7 29 _ by rw [hu2]; exact hS.to HBu2.out) (fun hS => ?_)
              clear hK K'
              change wpAnyH _ _ _ _ _ _ _ _ (u0.alloc (.cells (dtE ⟨xm, xd, xh, xa⟩).toArray 29))
              replace hS : Blk (u0.alloc (.cells (dtE ⟨xm, xd, xh, xa⟩).toArray 29)) g7 29 [.int .i64 xm, .int .i64 xd, .string xh, .string xa] := hS
              rw [hu2] at hS ⊢
              clear hu2
              refine wpAnyH_ready (rs := [9]) (by kernel_rfl) (by simp) ?_
              refine AllReadyH.cons rfl (fun K' hK => ?_) AllReadyH.nil
              refine step_app1 Try.dtElem u2 rfl (.tmp 59) (.tmp 61) rfl w.heap.size A6 c6 (dOn (M.take k) xd) (by rw [HN6.out]; rfl) (show OwnL dtE 4 29 w.heap.size u2 (.slice A6 (dOn (M.take k) xd).length c6) (dOn (M.take k) xd) from by rw [← HF.out]; exact HDu2.out.row xd) ⟨xm, xd, xh, xa⟩ u0.heap.size 1 (by rfl) HKu2.out (by rw [HN6.out]; unfold maxLen; have := HNL.out; omega) (by rw [HN6.out]; have := HNL.out; omega) (by have h1 := HBu0.out.size; have h2 := HBu2.out.size; have h3 := HZ5.out.2.2.2.1.size; omega) ?_
              intro g8 cap8 u3 ha8
              have HA8 := Lib.hid ha8
              have HFA6 := Lib.hid (show Far (adB A6) u2 u3 from Far.grown ha8.grown (fun b hb => adB_own hb))
              have hS3 : Blk u3 g7 29 [.int .i64 xm, .int .i64 xd, .string xh, .string xa] := hS.far HFA6.out (fun e => HG7N.out e)
              refine hK.out _ _ hS3 (fun hS => ?_)
              clear hK K' ha8
              rw [HN6.out]
              refine wpAnyH_ready (rs := [10]) (by kernel_rfl) (by simp) ?_
              refine AllReadyH.cons rfl (fun K' hK => ?_) AllReadyH.nil
              refine step_put (Maps.int_keyed Try.underlying2) Try.underlying58 (fun x hx => Maps.keyOf_int_mk Try.underlying2 hx) u3 rfl (.tmp 53) (.tmp 55) (.tmp 62) rfl gm (HDu2.out.map).choose (.slice none 0 0) F xd (.slice (some ⟨g8, 0, none⟩) (n6 + 1) cap8) (by rfl) (by rfl) (by rfl) ((HDu2.out.map).choose_spec.2.far HFA6.out (fun e => (HDu2.out.gne xd gm (by rw [HF.out]; exact own_adB e) rfl))) (Nat.lt_of_le_of_lt (HDu2.out.map).choose_spec.1 (by unfold maxLen; rw [List.length_take]; omega)) HWF.out ?_
              intro u4 hm4 hg4
              refine hK.out _ _ (hS.far (Far.grown hg4 (bs := [gm]) (fun b hb => by injection hb with hb; simp [hb])) (by simp; exact HG7M.out)) (fun hS => ?_)
              clear hK K'
              refine wpAnyH_done (by kernel_rfl) ?_ _
              rw [← HN6.out] at hm4
              refine ⟨rfl, ⟨u0.heap.size, g8, cap8⟩, ?fra, ?con⟩
              case fra => unfold caF; go_simp
              case con =>
                have hh := day_put HDu0.out HBu2.out HF.out HA8.out hm4 hg4 (Nat.succ_le_succ (HDu2.out.map).choose_spec.1) HZ5.out.2.1 HZ5.out.2.2.1 HBu0.out HZ5.out.2.2.2.1 HTK.out rfl HZ5.out.1.own_lt
                dsimp only at hh
                rw [HN6.out] at hh
                exact hh
            · go_simp
              obtain ⟨u2, hu2⟩ : ∃ y, u0.alloc (.cells (dtE ⟨xm, xd, xh, xa⟩).toArray 29) = y := ⟨_, rfl⟩
              have HBu2 := Lib.hid (show Below u0.heap.size u0 u2 by rw [← hu2]; exact cur_new _ _)
              have HKu2 := Lib.hid (show u2.heap[u0.heap.size]? = some (.cells (dtE ⟨xm, xd, xh, xa⟩).toArray 29 (0, 0)) by rw [← hu2]; exact heap_alloc_new _ _)
              have HDu2 := Lib.hid (HDu0.out.to HBu2.out)
              refine hK.out _ _ (show Blk (u0.alloc (.cells (dtE ⟨xm, xd, xh, xa⟩).toArray 29)) g7 29 _ by rw [hu2]; exact hS.to HBu2.out) (fun hS => ?_)
              clear hK K'
              change wpAnyH _ _ _ _ _ _ _ _ (u0.alloc (.cells (dtE ⟨xm, xd, xh, xa⟩).toArray 29))
              replace hS : Blk (u0.alloc (.cells (dtE ⟨xm, xd, xh, xa⟩).toArray 29)) g7 29 [.int .i64 xm, .int .i64 xd, .string xh, .string xa] := hS
              rw [hu2] at hS ⊢
              clear hu2
              refine wpAnyH_ready (rs := [6]) (by kernel_rfl) (by simp) ?_
              refine AllReadyH.cons rfl (fun K' hK => ?_) AllReadyH.nil
              have hlk := (HDu2.out.map).choose_spec.2.lookD HWF.out
              rw [HF.out, HN6.out] at hlk
              go_simp
              refine hK.out _ _ hS (fun hS => ?_)
              clear hK K' hlk
              refine wpAnyH_ready (rs := [9]) (by kernel_rfl) (by simp) ?_
              refine AllReadyH.cons rfl (fun K' hK => ?_) AllReadyH.nil
              refine step_app1 Try.dtElem u2 rfl (.tmp 59) (.tmp 61) rfl w.heap.size A6 c6 (dOn (M.take k) xd) (by rw [HN6.out]; rfl) (show OwnL dtE 4 29 w.heap.size u2 (.slice A6 (dOn (M.take k) xd).length c6) (dOn (M.take k) xd) from by rw [← HF.out]; exact HDu2.out.row xd) ⟨xm, xd, xh, xa⟩ u0.heap.size 1 (by rfl) HKu2.out (by rw [HN6.out]; unfold maxLen; have := HNL.out; omega) (by rw [HN6.out]; have := HNL.out; omega) (by have h1 := HBu0.out.size; have h2 := HBu2.out.size; have h3 := HZ5.out.2.2.2.1.size; omega) ?_
              intro g8 cap8 u3 ha8
              have HA8 := Lib.hid ha8
              have HFA6 := Lib.hid (show Far (adB A6) u2 u3 from Far.grown ha8.grown (fun b hb => adB_own hb))
              have hS3 : Blk u3 g7 29 [.int .i64 xm, .int .i64 xd, .string xh, .string xa] := hS.far HFA6.out (fun e => HG7N.out e)
              refine hK.out _ _ hS3 (fun hS => ?_)
              clear hK K' ha8
              rw [HN6.out]
              refine wpAnyH_ready (rs := [10]) (by kernel_rfl) (by simp) ?_
              refine AllReadyH.cons rfl (fun K' hK => ?_) AllReadyH.nil
              refine step_put (Maps.int_keyed Try.underlying2) Try.underlying58 (fun x hx => Maps.keyOf_int_mk Try.underlying2 hx) u3 rfl (.tmp 53) (.tmp 55) (.tmp 62) rfl gm (HDu2.out.map).choose (.slice none 0 0) F xd (.slice (some ⟨g8, 0, none⟩) (n6 + 1) cap8) (by rfl) (by rfl) (by rfl) ((HDu2.out.map).choose_spec.2.far HFA6.out (fun e => (HDu2.out.gne xd gm (by rw [HF.out]; exact own_adB e) rfl))) (Nat.lt_of_le_of_lt (HDu2.out.map).choose_spec.1 (by unfold maxLen; rw [List.length_take]; omega)) HWF.out ?_
              intro u4 hm4 hg4
              refine hK.out _ _ (hS.far (Far.grown hg4 (bs := [gm]) (fun b hb => by injection hb with hb; simp [hb])) (by simp; exact HG7M.out)) (fun hS => ?_)
              clear hK K'
              refine wpAnyH_done (by kernel_rfl) ?_ _
              rw [← HN6.out] at hm4
              refine ⟨rfl, ⟨u0.heap.size, g8, cap8⟩, ?fra, ?con⟩
              case fra => unfold caF; go_simp
              case con =>
                have hh := day_put HDu0.out HBu2.out HF.out HA8.out hm4 hg4 (Nat.succ_le_succ (HDu2.out.map).choose_spec.1) HZ5.out.2.1 HZ5.out.2.2.1 HBu0.out HZ5.out.2.2.2.1 HTK.out rfl HZ5.out.1.own_lt
                dsimp only at hh
                rw [HN6.out] at hh
                exact hh
          case beh =>
            rintro ⟨b7, g8, cap8⟩ w9 ⟨hz, hb⟩
            dsimp only at hz hb
            have HZF := Lib.hid hz
            have HBF := Lib.hid hb
            clear hz hb
            unfold caF
            dsimp only
            go_simp
            go_wp2_with (fail)
            first
            | (go_roundw
               case rel => exact ⟨k + 1, _, _, _, by omega, rfl, by simp, HZF.out, HBF.out⟩
               case measure => simp [intOf]; omega)
            | exact ⟨⟨k + 1, _, _, _, by omega, rfl, by simp, HZF.out, HBF.out⟩, by simp [intOf]; omega⟩
        · have HDS := Lib.hid (show daysL (M.take (k + 1)) = L9 by rw [HTK.out, daysL_snoc, HDN.out, if_pos (by simpa using hn0), hL9])
          have hnd : ((n6 : Int) == 0) = false := by simp [hn0]
          clear hn0
          have HZ5 := Lib.hid (show DyR w.heap.size gm F (M.take k) w3 ∧ OwnL iE 1 2 w.heap.size w3 (.slice A9 (daysL (M.take (k + 1))).length c9) (daysL (M.take (k + 1))) ∧ (∀ b ∈ adB A9, b ≠ gm ∧ ∀ d, (F d).ownBlock ≠ some b) ∧ Below w.heap.size w w3 ∧ Blk w3 g7 29 [.int .i64 xm, .int .i64 xd, .string xh, .string xa] from ⟨HZ3.out.dy, by rw [HDS.out, ← HL9.out]; exact HZ3.out.ds, HZ3.out.ne, HB3.out, HK3.out⟩)
          clear hL9
          go_upto_region 11 with (fail)
          rw [show L9.length = (daysL (M.take (k + 1))).length by rw [HDS.out]]
          clear hlk3 e1 el
          have HG7M := Lib.hid (show g7 ≠ gm from (HZ3.out.dy.map).choose_spec.2.ne HK3.out)
          have HG7N := Lib.hid (show g7 ∉ adB A6 from fun e => HG7A.out xd (by rw [HF.out]; exact own_adB e))
          refine wp_absA (caF gm g7 xd (.slice A6 n6 c6) n6 (.agg #[.int .i64 xm, .int .i64 xd, .string xh, .string xa])) (fun (z : Ca) (w' : World) => DzR w.heap.size gm (putI F xd (.slice (some ⟨z.g, 0, none⟩) (n6 + 1) z.cap)) (M.take (k + 1)) A9 c9 w' ∧ Below w.heap.size w w') ?reg ?beh
          case reg =>
            refine wp_region_held_drew (S := fun w' => Blk w' g7 29 [.int .i64 xm, .int .i64 xd, .string xh, .string xa]) (by kernel_rfl) (HZ5.out.2.2.2.2.to (cur_drew w3 1)) (fun hS => ?_)
            obtain ⟨u0, hu0⟩ : ∃ W, w3.drew = W := ⟨_, rfl⟩
            have HBu0 := Lib.hid (show Below w3.heap.size w3 u0 by rw [← hu0]; exact cur_drew w3 1)
            have HDu0 := Lib.hid (HZ5.out.1.to HBu0.out)
            rw [hu0] at hS ⊢
            clear hu0
            refine wpAnyH_take (i := 0) (v := ?_) rfl (by kernel_rfl) (by kernel_rfl) (by kernel_rfl) (fun _ _ _ h => nomatch h.1) (Or.inl ⟨by rfl, ?_⟩) hS ?_
            rotate_left
            · intro w' _
              go_simp
              try with_reducible rfl
            refine wpAnyH_take (i := 1) (v := ?_) rfl (by kernel_rfl) (by kernel_rfl) (by kernel_rfl) (fun _ _ _ h => nomatch h.1) (Or.inl ⟨by rfl, ?_⟩) hS ?_
            rotate_left
            · intro w' _
              go_simp
              try with_reducible rfl
            refine wpAnyH_take (i := 2) (v := .int .i64 xd) rfl (by kernel_rfl) (by kernel_rfl) (by kernel_rfl) (fun _ _ _ h => nomatch h.1) (Or.inl ⟨by rfl, ?_⟩) hS ?_
            · intro w' hw'
              have q0 : w'.cell? ⟨g7, 0, none⟩ = some (.int .i64 xm) := hw'.cell 0
              have q1 : w'.cell? ⟨g7, 1, none⟩ = some (.int .i64 xd) := hw'.cell 1
              have q2 : w'.cell? ⟨g7, 2, none⟩ = some (.string xh) := hw'.cell 2
              have q3 : w'.cell? ⟨g7, 3, none⟩ = some (.string xa) := hw'.cell 3
              go_simp
            refine wpAnyH_take (i := 3) (v := ?_) rfl (by kernel_rfl) (by kernel_rfl) (by kernel_rfl) (fun _ _ _ h => nomatch h.1) (Or.inl ⟨by rfl, ?_⟩) hS ?_
            rotate_left
            · intro w' _
              go_simp
              try with_reducible rfl
            refine wpAnyH_take (i := 4) (v := ?_) rfl (by kernel_rfl) (by kernel_rfl) (by kernel_rfl) (fun _ _ _ h => nomatch h.1) (Or.inl ⟨by rfl, ?_⟩) hS ?_
            rotate_left
            · intro w' _
              go_simp
              try with_reducible rfl
            refine wpAnyH_take (i := 5) (v := .int .i64 xd) rfl (by kernel_rfl) (by kernel_rfl) (by kernel_rfl) (fun _ _ _ h => nomatch h.1) (Or.inl ⟨by rfl, ?_⟩) hS ?_
            · intro w' hw'
              have q0 : w'.cell? ⟨g7, 0, none⟩ = some (.int .i64 xm) := hw'.cell 0
              have q1 : w'.cell? ⟨g7, 1, none⟩ = some (.int .i64 xd) := hw'.cell 1
              have q2 : w'.cell? ⟨g7, 2, none⟩ = some (.string xh) := hw'.cell 2
              have q3 : w'.cell? ⟨g7, 3, none⟩ = some (.string xa) := hw'.cell 3
              go_simp
            refine wpAnyH_take (i := 7) (v := .agg #[.int .i64 xm, .int .i64 xd, .string xh, .string xa]) rfl (by kernel_rfl) (by kernel_rfl) (by kernel_rfl) (fun _ _ _ h => nomatch h.1) (Or.inl ⟨by rfl, ?_⟩) hS ?_
            · intro w' hw'
              have q0 : w'.cell? ⟨g7, 0, none⟩ = some (.int .i64 xm) := hw'.cell 0
              have q1 : w'.cell? ⟨g7, 1, none⟩ = some (.int .i64 xd) := hw'.cell 1
              have q2 : w'.cell? ⟨g7, 2, none⟩ = some (.string xh) := hw'.cell 2
              have q3 : w'.cell? ⟨g7, 3, none⟩ = some (.string xa) := hw'.cell 3
              go_simp
            refine wpAnyH_ready (rs := [6, 8]) (by kernel_rfl) (by simp) ?_
            refine AllReadyH.cons rfl (fun K' hK => ?_) (AllReadyH.cons rfl (fun K' hK => ?_) AllReadyH.nil)
            · have hlk := (HDu0.out.map).choose_spec.2.lookD HWF.out
              rw [HF.out, HN6.out] at hlk
              go_simp
              refine hK.out _ _ hS (fun hS => ?_)
              clear hK K' hlk
              refine wpAnyH_ready (rs := [8]) (by kernel_rfl) (by simp) ?_
              refine AllReadyH.cons rfl (fun K' hK => ?_) AllReadyH.nil
              go_simp
              obtain ⟨u2, hu2⟩ : ∃ y, u0.alloc (.cells (dtE ⟨xm, xd, xh, xa⟩).toArray 29) = y := ⟨_, rfl⟩
              have HBu2 := Lib.hid (show Below u0.heap.size u0 u2 by rw [← hu2]; exact cur_new _ _)
              have HKu2 := Lib.hid (show u2.heap[u0.heap.size]? = some (.cells (dtE ⟨xm, xd, xh, xa⟩).toArray 29 (0, 0)) by rw [← hu2]; exact heap_alloc_new _ _)
              have HDu2 := Lib.hid (HDu0.out.to HBu2.out)
              refine hK.out _ _ (show Blk (u0.alloc (.cells (dtE ⟨xm, xd, xh, xa⟩).toArray 29)) g7 29 _ by rw [hu2]; exact hS.to HBu2.out) (fun hS => ?_)
              clear hK K'
              change wpAnyH _ _ _ _ _ _ _ _ (u0.alloc (.cells (dtE ⟨xm, xd, xh, xa⟩).toArray 29))
              replace hS : Blk (u0.alloc (.cells (dtE ⟨xm, xd, xh, xa⟩).toArray 29)) g7 29 [.int .i64 xm, .int .i64 xd, .string xh, .string xa] := hS
              rw [hu2] at hS ⊢
              clear hu2
              refine wpAnyH_ready (rs := [9]) (by kernel_rfl) (by simp) ?_
              refine AllReadyH.cons rfl (fun K' hK => ?_) AllReadyH.nil
              refine step_app1 Try.dtElem u2 rfl (.tmp 59) (.tmp 61) rfl w.heap.size A6 c6 (dOn (M.take k) xd) (by rw [HN6.out]; rfl) (show OwnL dtE 4 29 w.heap.size u2 (.slice A6 (dOn (M.take k) xd).length c6) (dOn (M.take k) xd) from by rw [← HF.out]; exact HDu2.out.row xd) ⟨xm, xd, xh, xa⟩ u0.heap.size 1 (by rfl) HKu2.out (by rw [HN6.out]; unfold maxLen; have := HNL.out; omega) (by rw [HN6.out]; have := HNL.out; omega) (by have h1 := HBu0.out.size; have h2 := HBu2.out.size; have h3 := HZ5.out.2.2.2.1.size; omega) ?_
              intro g8 cap8 u3 ha8
              have HA8 := Lib.hid ha8
              have HFA6 := Lib.hid (show Far (adB A6) u2 u3 from Far.grown ha8.grown (fun b hb => adB_own hb))
              have hS3 : Blk u3 g7 29 [.int .i64 xm, .int .i64 xd, .string xh, .string xa] := hS.far HFA6.out (fun e => HG7N.out e)
              refine hK.out _ _ hS3 (fun hS => ?_)
              clear hK K' ha8
              rw [HN6.out]
              refine wpAnyH_ready (rs := [10]) (by kernel_rfl) (by simp) ?_
              refine AllReadyH.cons rfl (fun K' hK => ?_) AllReadyH.nil
              refine step_put (Maps.int_keyed Try.underlying2) Try.underlying58 (fun x hx => Maps.keyOf_int_mk Try.underlying2 hx) u3 rfl (.tmp 53) (.tmp 55) (.tmp 62) rfl gm (HDu2.out.map).choose (.slice none 0 0) F xd (.slice (some ⟨g8, 0, none⟩) (n6 + 1) cap8) (by rfl) (by rfl) (by rfl) ((HDu2.out.map).choose_spec.2.far HFA6.out (fun e => (HDu2.out.gne xd gm (by rw [HF.out]; exact own_adB e) rfl))) (Nat.lt_of_le_of_lt (HDu2.out.map).choose_spec.1 (by unfold maxLen; rw [List.length_take]; omega)) HWF.out ?_
              intro u4 hm4 hg4
              refine hK.out _ _ (hS.far (Far.grown hg4 (bs := [gm]) (fun b hb => by injection hb with hb; simp [hb])) (by simp; exact HG7M.out)) (fun hS => ?_)
              clear hK K'
              refine wpAnyH_done (by kernel_rfl) ?_ _
              rw [← HN6.out] at hm4
              refine ⟨rfl, ⟨u0.heap.size, g8, cap8⟩, ?fra, ?con⟩
              case fra => unfold caF; go_simp
              case con =>
                have hh := day_put HDu0.out HBu2.out HF.out HA8.out hm4 hg4 (Nat.succ_le_succ (HDu2.out.map).choose_spec.1) HZ5.out.2.1 HZ5.out.2.2.1 HBu0.out HZ5.out.2.2.2.1 HTK.out rfl HZ5.out.1.own_lt
                dsimp only at hh
                rw [HN6.out] at hh
                exact hh
            · go_simp
              obtain ⟨u2, hu2⟩ : ∃ y, u0.alloc (.cells (dtE ⟨xm, xd, xh, xa⟩).toArray 29) = y := ⟨_, rfl⟩
              have HBu2 := Lib.hid (show Below u0.heap.size u0 u2 by rw [← hu2]; exact cur_new _ _)
              have HKu2 := Lib.hid (show u2.heap[u0.heap.size]? = some (.cells (dtE ⟨xm, xd, xh, xa⟩).toArray 29 (0, 0)) by rw [← hu2]; exact heap_alloc_new _ _)
              have HDu2 := Lib.hid (HDu0.out.to HBu2.out)
              refine hK.out _ _ (show Blk (u0.alloc (.cells (dtE ⟨xm, xd, xh, xa⟩).toArray 29)) g7 29 _ by rw [hu2]; exact hS.to HBu2.out) (fun hS => ?_)
              clear hK K'
              change wpAnyH _ _ _ _ _ _ _ _ (u0.alloc (.cells (dtE ⟨xm, xd, xh, xa⟩).toArray 29))
              replace hS : Blk (u0.alloc (.cells (dtE ⟨xm, xd, xh, xa⟩).toArray 29)) g7 29 [.int .i64 xm, .int .i64 xd, .string xh, .string xa] := hS
              rw [hu2] at hS ⊢
              clear hu2
              refine wpAnyH_ready (rs := [6]) (by kernel_rfl) (by simp) ?_
              refine AllReadyH.cons rfl (fun K' hK => ?_) AllReadyH.nil
              have hlk := (HDu2.out.map).choose_spec.2.lookD HWF.out
              rw [HF.out, HN6.out] at hlk
              go_simp
              refine hK.out _ _ hS (fun hS => ?_)
              clear hK K' hlk
              refine wpAnyH_ready (rs := [9]) (by kernel_rfl) (by simp) ?_
              refine AllReadyH.cons rfl (fun K' hK => ?_) AllReadyH.nil
              refine step_app1 Try.dtElem u2 rfl (.tmp 59) (.tmp 61) rfl w.heap.size A6 c6 (dOn (M.take k) xd) (by rw [HN6.out]; rfl) (show OwnL dtE 4 29 w.heap.size u2 (.slice A6 (dOn (M.take k) xd).length c6) (dOn (M.take k) xd) from by rw [← HF.out]; exact HDu2.out.row xd) ⟨xm, xd, xh, xa⟩ u0.heap.size 1 (by rfl) HKu2.out (by rw [HN6.out]; unfold maxLen; have := HNL.out; omega) (by rw [HN6.out]; have := HNL.out; omega) (by have h1 := HBu0.out.size; have h2 := HBu2.out.size; have h3 := HZ5.out.2.2.2.1.size; omega) ?_
              intro g8 cap8 u3 ha8
              have HA8 := Lib.hid ha8
              have HFA6 := Lib.hid (show Far (adB A6) u2 u3 from Far.grown ha8.grown (fun b hb => adB_own hb))
              have hS3 : Blk u3 g7 29 [.int .i64 xm, .int .i64 xd, .string xh, .string xa] := hS.far HFA6.out (fun e => HG7N.out e)
              refine hK.out _ _ hS3 (fun hS => ?_)
              clear hK K' ha8
              rw [HN6.out]
              refine wpAnyH_ready (rs := [10]) (by kernel_rfl) (by simp) ?_
              refine AllReadyH.cons rfl (fun K' hK => ?_) AllReadyH.nil
              refine step_put (Maps.int_keyed Try.underlying2) Try.underlying58 (fun x hx => Maps.keyOf_int_mk Try.underlying2 hx) u3 rfl (.tmp 53) (.tmp 55) (.tmp 62) rfl gm (HDu2.out.map).choose (.slice none 0 0) F xd (.slice (some ⟨g8, 0, none⟩) (n6 + 1) cap8) (by rfl) (by rfl) (by rfl) ((HDu2.out.map).choose_spec.2.far HFA6.out (fun e => (HDu2.out.gne xd gm (by rw [HF.out]; exact own_adB e) rfl))) (Nat.lt_of_le_of_lt (HDu2.out.map).choose_spec.1 (by unfold maxLen; rw [List.length_take]; omega)) HWF.out ?_
              intro u4 hm4 hg4
              refine hK.out _ _ (hS.far (Far.grown hg4 (bs := [gm]) (fun b hb => by injection hb with hb; simp [hb])) (by simp; exact HG7M.out)) (fun hS => ?_)
              clear hK K'
              refine wpAnyH_done (by kernel_rfl) ?_ _
              rw [← HN6.out] at hm4
              refine ⟨rfl, ⟨u0.heap.size, g8, cap8⟩, ?fra, ?con⟩
              case fra => unfold caF; go_simp
              case con =>
                have hh := day_put HDu0.out HBu2.out HF.out HA8.out hm4 hg4 (Nat.succ_le_succ (HDu2.out.map).choose_spec.1) HZ5.out.2.1 HZ5.out.2.2.1 HBu0.out HZ5.out.2.2.2.1 HTK.out rfl HZ5.out.1.own_lt
                dsimp only at hh
                rw [HN6.out] at hh
                exact hh
          case beh =>
            rintro ⟨b7, g8, cap8⟩ w9 ⟨hz, hb⟩
            dsimp only at hz hb
            have HZF := Lib.hid hz
            have HBF := Lib.hid hb
            clear hz hb
            unfold caF
            dsimp only
            go_simp
            go_wp2_with (fail)
            first
            | (go_roundw
               case rel => exact ⟨k + 1, _, _, _, by omega, rfl, by simp, HZF.out, HBF.out⟩
               case measure => simp [intOf]; omega)
            | exact ⟨⟨k + 1, _, _, _, by omega, rfl, by simp, HZF.out, HBF.out⟩, by simp [intOf]; omega⟩
      · have HZE := Lib.hid (show DzR w.heap.size gm F M A9 c9 wr by have h := HZ.out; rwa [List.take_of_length_le (by omega)] at h)
        have hke := Lib.hid (show M.take k = M from List.take_of_length_le (by omega))
        rw [hke.out]
        clear HZ
        obtain ⟨DS, hDS⟩ : ∃ L, sortL (daysL M) = L := ⟨_, rfl⟩
        have HDSe := Lib.hid hDS
        have HDL := Lib.hid (show DS.length = (daysL M).length by rw [← hDS]; exact sortL_len' _)
        have hdl := days_len M
        have HDM := Lib.hid (show ∀ dd ∈ DS, dOn M dd ≠ [] from fun dd hd => (days_mem M dd).1 ((sortL_mem _ dd).1 (by rw [hDS]; exact hd)))
        clear hDS
        go_wp2_with (fail)
        refine (sort_any _ w.heap.size A9 c9 (daysL M) HZE.out.ds (by omega)).mono ?_
        rintro e ws ⟨rfl, hos, hfs⟩
        rw [HDSe.out] at hos
        have HDY := Lib.hid (HZE.out.dy.far hfs (fun e => (HZE.out.ne gm e).1 rfl) (fun dd b hb e => (HZE.out.ne b e).2 dd hb))
        have HBS := Lib.hid (HB.out.trans (hfs.below HB.out.size (fun y hy => (own_in HZE.out.ds y hy).1)))
        rw [← HDL.out] at hos ⊢
        have HDSo := Lib.hid hos
        have HDSR := Lib.hid (own_rd iE_len hos)
        have hdsl : DS.length ≤ 200 := by have := HDL.out; omega
        clear hos hfs HZE HB hke hdl
        go_wp2_with (fail)
        go_loopw [68] (fun iv wr => ∃ k : Nat, k ≤ DS.length ∧ iv = .int .i64 k ∧ Below ws.heap.size ws wr ∧ ∀ dd ∈ DS.take k, badB M U dd = false) (fun i _ => DS.length - (intOf i).toNat)
        case atStart => exact ⟨0, by omega, rfl, Below.refl _ _, (fun dd hd => by simp at hd)⟩
        case round =>
          obtain ⟨k, hk, rfl, hb, hbad⟩ := hrel
          have HB := Lib.hid hb
          have HBAD := Lib.hid hbad
          clear hb hbad
          by_cases hkl : k < DS.length
          · obtain ⟨dd, hd⟩ : ∃ dd, DS[k]? = some dd := ⟨_, List.getElem?_eq_getElem hkl⟩
            obtain ⟨b1, off1, hA1, hb1l, c1⟩ := rdi_at HDSR.out HB.out hd
            have HW3 := Lib.hid (cur_step1 HBS.out HB.out)
            have hdm : dOn M dd ≠ [] := HDM.out dd (List.mem_of_getElem? hd)
            obtain ⟨y0, hy0⟩ := List.exists_mem_of_ne_nil _ hdm
            have hy1 : y0 ∈ M ∧ y0.d = dd := by unfold dOn at hy0; rw [List.mem_filter] at hy0; exact ⟨hy0.1, by simpa using hy0.2⟩
            have hrg := HOK.out.rng y0 hy1.1
            rw [hy1.2] at hrg
            have HWF := Lib.hid (wf_i (x := dd) (by omega) (by omega))
            have HD3 := Lib.hid (HDY.out.to HB.out)
            obtain ⟨A6, c6, hF, hrd6⟩ := HD3.out.rd dd
            have hlk := (HD3.out.map).choose_spec.2.lookD HWF.out
            rw [hF] at hlk
            have HF := Lib.hid hF
            have HRD6 := Lib.hid hrd6
            have HTK := Lib.hid (show DS.take (k + 1) = DS.take k ++ [dd] by rw [List.take_add_one, hd]; rfl)
            have HDK := Lib.hid hd
            obtain ⟨D, hD⟩ : ∃ D, dOn M dd = D := ⟨_, rfl⟩
            have HDe := Lib.hid hD
            have hDl : D.length ≤ 200 := by rw [← hD]; exact Nat.le_trans (List.length_filter_le _ _) (by omega)
            rw [hD] at hlk HRD6
            rw [hA1]
            have HA1 := Lib.hid hA1
            have hd1 : b1 < wr.heap.size := Nat.lt_of_lt_of_le hb1l HB.out.size
            have hk200 : k < 200 := by omega
            clear hF hrd6 hD hdm hy0 hy1 hrg hd hA1
            rename World => wo
            go_wp2_with (fail)
            refine (newm_p D U A6 B c6 d wo HRD6.out (H.out.u.to HW3.out) H.out.us (by omega) (by omega)).mono ?_
            rintro e w5 ⟨x, rows, rfl, hm5, hmay, hxm, hxu, hb5⟩
            have HM5 := Lib.hid hm5
            have HMAY := Lib.hid hmay
            have HXM := Lib.hid hxm
            have HXU := Lib.hid hxu
            have HB5 := Lib.hid hb5
            clear hm5 hmay hxm hxu hb5
            go_wp2_with (fail)
            refine (fill_p _ x rows _ _ w5 (by rw [HXU.out]; omega) (by rw [HXM.out]; omega) (fun q hq => by have := List.eq_of_mem_replicate hq; omega) HM5.out (fresh_rep U.length).val).mono ?_
            rintro e w6 ⟨A7, c7, rfl, ho7, hI7⟩
            have hle : fillF (mayR rows) x.nu (List.replicate D.length 2) 0 (List.replicate U.length (-1)) [] = lkD M U dd := by rw [HMAY.out, HXU.out]; unfold lkD mayD; rw [HDe.out]
            have hinv := fill_inv (may := mayR rows) (nm := x.nm) (n := x.nu) (need := List.replicate D.length 2) (us0 := List.replicate U.length (-1)) (by simp [HXU.out]) (by simp [HXM.out]) (fresh_rep U.length)
            rw [hle] at ho7 hI7 hinv ⊢
            obtain ⟨LK, hLK⟩ : ∃ L, lkD M U dd = L := ⟨_, rfl⟩
            rw [hLK] at ho7 hI7 hinv ⊢
            have HLK := Lib.hid hLK
            have HO7 := Lib.hid ho7
            have HI7 := Lib.hid hI7
            have HINV := Lib.hid hinv
            have HB6 := Lib.hid (show Below wo.heap.size wo w6 from HB5.out.trans (hI7.far.below HB5.out.size (fun y hy => (HM5.out.inB y (by simp [Mx.bs, hy])).1)))
            have HLL := Lib.hid (show LK.1.length ≤ 200 by
              by_cases e : LK.1 = []
              · simp [e]
              · have h1 := sorted_len LK.1 0 x.nm hinv.sorted (fun y _ => Nat.zero_le _) (fun y hy => (hinv.part y hy).1) e
                have h2 := HXM.out
                omega)
            clear hle hinv hLK ho7 hI7 HM5 HB5
            by_cases h0 : LK.1.length = 0
            · have HBF := Lib.hid (show ∀ q ∈ DS.take (k + 1), badB M U q = false from fun q hq => by
                rw [HTK.out] at hq
                rcases List.mem_append.1 hq with e | e
                · exact HBAD.out q e
                · simp at e; subst e; unfold badB; rw [HLK.out]; simp [h0])
              have h0' : decide ((0 : Int) < (LK.1.length : Int)) = false := decide_eq_false (by omega)
              have h0n : ¬ (0 < LK.1.length) := by omega
              clear h0
              go_wp2_with (fail)
              go_roundw
              case rel => exact ⟨k + 1, by omega, by simp, cur_step1 HB.out HB6.out, HBF.out⟩
              case measure => simp [intOf]; omega
            · have HBT := Lib.hid (show badD M U = some dd from by
                unfold badD
                rw [HDSe.out]
                exact find_at HDK.out HBAD.out (by unfold badB; rw [HLK.out]; simpa using h0))
              have h0' : decide ((0 : Int) < (LK.1.length : Int)) = true := decide_eq_true (by omega)
              have h0n : 0 < LK.1.length := by omega
              clear h0
              go_wp2_with (fail)
              refine (lacking_p _ x rows _ LK.2 LK.1 A7 c7 w6 (by rw [HXU.out]; omega) (by rw [HXM.out]; omega) HI7.out.mat HI7.out.val (fun y hy => (HINV.out.part y hy).1) (by have := HLL.out; omega) (own_rd nE_len HO7.out)).mono ?_
              rintro e w8 ⟨⟨A8, c8, rfl, ho8⟩, hb8⟩
              obtain ⟨O, hO⟩ : ∃ O, outI (lackF (mayR rows) LK.2 x.nm LK.1) x.nm = O := ⟨_, rfl⟩
              have HNUM := Lib.hid (show numsD M U dd = O.map (numAt D) by
                unfold numsD mayD
                rw [HLK.out, HDe.out, ← hO, HMAY.out, HXM.out])
              have HOB := Lib.hid (show ∀ y ∈ O, y < D.length from fun y hy => by
                rw [← hO] at hy
                unfold outI at hy
                have := (List.mem_filter.1 hy).1
                simp at this
                have h2 := HXM.out
                omega)
              have HOL := Lib.hid (show O.length ≤ 200 by rw [← hO]; have := outI_len (lackF (mayR rows) LK.2 x.nm LK.1) x.nm; have := HXM.out; omega)
              rw [hO] at ho8 ⊢
              have HRO := Lib.hid (own_rd nE_len ho8)
              have HB8 := Lib.hid (cur_step1 HB6.out hb8)
              clear hO ho8 hb8 HI7 HINV HO7 HLK
              go_wp2_with (fail)
              go_loopw [16, 86] (fun v iv wr3 => ∃ (i : Nat) (A9 : Option Addr) (c9 : Nat), i ≤ O.length ∧ v = .slice A9 ((O.take i).map (numAt D)).length c9 ∧ iv = .int .i64 i ∧ OwnL iE 1 3 w8.heap.size wr3 (.slice A9 ((O.take i).map (numAt D)).length c9) ((O.take i).map (numAt D)) ∧ Below w8.heap.size w8 wr3) (fun _ i _ => O.length - (intOf i).toNat)
              case atStart => exact ⟨0, none, 0, by omega, rfl, rfl, World.ownsRow_nil _ _ _ _, Below.refl _ _⟩
              case round =>
                obtain ⟨i, A9, c9, hi, rfl, rfl, ho, hb⟩ := hrel
                have HO := Lib.hid ho
                have HBi := Lib.hid hb
                clear ho hb
                rename World => wi
                by_cases hil : i < O.length
                · obtain ⟨y, hy⟩ : ∃ y, O[i]? = some y := ⟨_, List.getElem?_eq_getElem hil⟩
                  obtain ⟨b8, off8, hA8, hb8l, hc8⟩ := HRO.out.at_ HBi.out hy
                  have c8' : wi.cell? ⟨b8, off8 + i, none⟩ = some (.int .i64 (y : Int)) := by simpa using hc8 0 _ rfl
                  have hyD := HOB.out y (List.mem_of_getElem? hy)
                  obtain ⟨z, hz⟩ : ∃ z, D[y]? = some z := ⟨_, List.getElem?_eq_getElem hyD⟩
                  obtain ⟨b6, off6, hA6, hb6l, hc6⟩ := HRD6.out.at_ (cur_step1 HB8.out HBi.out) hz
                  obtain ⟨m0, -, -, -⟩ := dt_cells hc6
                  have HNX := Lib.hid (show (O.take (i + 1)).map (numAt D) = (O.take i).map (numAt D) ++ [z.m] by rw [List.take_add_one, hy, List.map_append]; simp [numAt, hz])
                  have hlk2 := ((HD3.out.to (cur_step1 HB8.out HBi.out)).map).choose_spec.2.lookD HWF.out
                  rw [HF.out, HDe.out] at hlk2
                  obtain ⟨N, hN⟩ : ∃ N, (O.take i).map (numAt D) = N := ⟨_, rfl⟩
                  have HNl := Lib.hid (show N.length = i by rw [← hN]; simp; omega)
                  rw [hN] at HO HNX ⊢
                  rw [hA8]
                  rw [hA6] at hlk2
                  have HA8 := Lib.hid hA8
                  have hl8 : b8 < wi.heap.size := Nat.lt_of_lt_of_le hb8l HBi.out.size
                  have hl6 : b6 < wi.heap.size := Nat.lt_of_lt_of_le hb6l (cur_step1 HB8.out HBi.out).size
                  have hi200 : i < 200 := by have := HOL.out; omega
                  have hy200 : y < 200 := by omega
                  have HW8 := Lib.hid (show w8.heap.size ≤ wi.heap.size from HBi.out.size)
                  obtain ⟨W9, hW9⟩ : ∃ q, wi.alloc (.cells (iE z.m).toArray 3) = q := ⟨_, rfl⟩
                  have HB9 := Lib.hid (show Below wi.heap.size wi W9 by rw [← hW9]; exact cur_new _ _)
                  have HK9 := Lib.hid (show W9.heap[wi.heap.size]? = some (.cells (iE z.m).toArray 3 (0, 0)) by rw [← hW9]; exact heap_alloc_new _ _)
                  have S9 := Lib.hid hW9
                  have HS9 := Lib.hid (show w8.heap.size ≤ W9.heap.size from Nat.le_trans HBi.out.size HB9.out.size)
                  clear hW9 hc8 hc6 hy hz hN hA8 hA6
                  go_upto_region 25 with (at_builtin; change wpList _ _ _ _ _ (wi.alloc (.cells (iE z.m).toArray 3)); rw [S9.out]; refine wpList_app1 Try.iElem W9 rfl (.tmp 90) (.tmp 98) rfl w8.heap.size A9 c9 N (by rfl) (own_below HO.out HB9.out (Nat.le_refl _)) z.m wi.heap.size 1 (by rfl) HK9.out (by have := HNl.out; unfold maxLen; omega) (by have := HNl.out; omega) HS9.out ?_; intro g9 cap9 w9 ha; have HA9 := Lib.hid ha; clear ha)
                  have HOF := Lib.hid (show OwnL iE 1 3 w8.heap.size w9 (.slice (some ⟨g9, 0, none⟩) (N.length + 1) cap9) (N ++ [z.m]) from HA9.out.one rfl)
                  have HBF := Lib.hid (show Below w8.heap.size w8 w9 from (cur_step1 HBi.out HB9.out).trans ((Far.grown (bs := adB A9) HA9.out.grown (fun b hb => adB_own hb)).below (cur_step1 HBi.out HB9.out).size (fun q hq => (own_in HO.out q hq).1)))
                  go_wp2_with (fail)
                  first
                  | (go_roundw
                     case rel => exact ⟨i + 1, some ⟨g9, 0, none⟩, cap9, by omega, by rw [HNX.out, List.length_append]; rfl, by simp, by rw [HNX.out, List.length_append]; exact HOF.out, HBF.out⟩
                     case measure => simp [intOf]; omega)
                  | exact ⟨⟨i + 1, some ⟨g9, 0, none⟩, cap9, by omega, by rw [HNX.out, List.length_append]; rfl, by simp, by rw [HNX.out, List.length_append]; exact HOF.out, HBF.out⟩, by simp [intOf]; omega⟩
                · have HNF := Lib.hid (show (O.take i).map (numAt D) = numsD M U dd by rw [HNUM.out, List.take_of_length_le (by omega)])
                  have HRE := Lib.hid (HRB.out dd HBT.out)
                  rw [HNF.out] at HO ⊢
                  have HRF := Lib.hid (own_rd iE_len HO.out)
                  go_wp2_with (fail)
                  go_ret3
                  exact ⟨⟨none, 0, A9, c9, by rw [HRE.out]; rfl, by rw [HRE.out]; exact Rd.nil_, by rw [HRE.out]; exact HRF.out⟩, cur_step1 (cur_step1 HW3.out HB8.out) HBi.out⟩
          · have HBN := Lib.hid (show badD M U = none from by
              unfold badD
              rw [HDSe.out]
              have h := HBAD.out
              rw [List.take_of_length_le (by omega)] at h
              rw [List.find?_eq_none]
              exact fun q hq => by rw [h q hq]; simp)
            have HRE := Lib.hid (HRN.out HBN.out)
            have HBA := Lib.hid (show ∀ q ∈ DS, badB M U q = false from fun q hq => by
              have h := HBAD.out
              rw [List.take_of_length_le (by omega)] at h
              exact h q hq)
            rename World => wb
            have HW := Lib.hid (cur_step1 HBS.out HB.out)
            have HDW := Lib.hid (HDY.out.to HB.out)
            have HDSW := Lib.hid (HDSR.out.to HB.out)
            have HTW := Lib.hid (H.out.to HW.out)
            have HP0 := Lib.hid (MpV.made wb 3 (.agg #[.int .i64 0, .int .i64 0]))
            obtain ⟨wp, hwp⟩ : ∃ W, wb.alloc (.map #[] 0) = W := ⟨_, rfl⟩
            have HBP := Lib.hid (show Below wb.heap.size wb wp by rw [← hwp]; exact cur_new _ _)
            obtain ⟨gp, hgp⟩ : ∃ q, wb.heap.size = q := ⟨_, rfl⟩
            have SGP := Lib.hid hgp
            have SWP := Lib.hid hwp
            rw [hgp, hwp] at HP0
            clear hwp hgp HBAD HB
            go_upto_region 29 with (fail)
            rw [SGP.out, SWP.out]
            have HPB := Lib.hid (show gp < wp.heap.size from HP0.out.lt)
            have HGB := Lib.hid (show wb.heap.size ≤ gp from Nat.le_of_eq SGP.out)
            clear SGP SWP
            go_wp2_with (fail)
            go_loopw [106] (fun iv wr2 => ∃ k n : Nat, k ≤ DS.length ∧ iv = .int .i64 k ∧ n ≤ k * 200 ∧ MpV wr2 3 gp n (.agg #[.int .i64 0, .int .i64 0]) (fun i => prV (putAll (fun _ => (0, 0)) (pairL M U (DS.take k)) i)) ∧ Below wb.heap.size wb wr2) (fun i _ => DS.length - (intOf i).toNat)
            case atStart => exact ⟨0, 0, by omega, rfl, by omega, HP0.out, HBP.out⟩
            case round =>
              clear HP0 HBP HPB
              obtain ⟨k, n, hk, rfl, hn, hp, hb⟩ := hrel
              have HP := Lib.hid hp
              have HB := Lib.hid hb
              clear hp hb
              rename World => wo
              have HPL := Lib.hid HP.out.lt
              by_cases hkl : k < DS.length
              · obtain ⟨dd, hd⟩ : ∃ dd, DS[k]? = some dd := ⟨_, List.getElem?_eq_getElem hkl⟩
                obtain ⟨b1, off1, hA1, hb1l, c1⟩ := rdi_at HDSW.out HB.out hd
                have hdm : dOn M dd ≠ [] := HDM.out dd (List.mem_of_getElem? hd)
                obtain ⟨y0, hy0⟩ := List.exists_mem_of_ne_nil _ hdm
                have hy1 : y0 ∈ M ∧ y0.d = dd := by unfold dOn at hy0; rw [List.mem_filter] at hy0; exact ⟨hy0.1, by simpa using hy0.2⟩
                have hrg := HOK.out.rng y0 hy1.1
                rw [hy1.2] at hrg
                have HWF := Lib.hid (wf_i (x := dd) (by omega) (by omega))
                have HD3 := Lib.hid (HDW.out.to HB.out)
                obtain ⟨A6, c6, hF, hrd6⟩ := HD3.out.rd dd
                have hlk := (HD3.out.map).choose_spec.2.lookD HWF.out
                rw [hF] at hlk
                have HF := Lib.hid hF
                have HRD6 := Lib.hid hrd6
                have HA6N := Lib.hid (show ∀ b ∈ adB A6, b ≠ gp ∧ b < wo.heap.size from fun b hb => by
                  have hr := HD3.out.row dd
                  rw [hF] at hr
                  exact ⟨HP.out.neOwn hr b hb, (own_in hr b hb).2⟩)
                have HTK := Lib.hid (show pairL M U (DS.take (k + 1)) = pairL M U (DS.take k) ++ ((dOn M dd).map Dty.m).zip (pairsD M U dd) by rw [List.take_add_one, hd]; unfold pairL; rw [List.flatMap_append]; simp)
                have HFE := Lib.hid (show Feas (mayD M U dd) (dOn M dd).length (List.replicate (dOn M dd).length 2) (List.replicate U.length (-1)) from by
                  have h1 := HBA.out dd (List.mem_of_getElem? hd)
                  unfold badB at h1
                  have h2 : (lkD M U dd).1 = [] := List.eq_nil_of_length_eq_zero (by simpa using h1)
                  exact (fill_iff (n := U.length) (by simp) (by simp) (fresh_rep U.length)).1 h2)
                have HMR := Lib.hid (show ∀ y ∈ dOn M dd, 1 ≤ y.m ∧ y.m ≤ 1000000 from fun y hy => by
                  unfold dOn at hy
                  have h3 := HOK.out.rng y (List.mem_filter.1 hy).1
                  exact ⟨h3.1, h3.2.1⟩)
                obtain ⟨D, hD⟩ : ∃ D, dOn M dd = D := ⟨_, rfl⟩
                have HDe := Lib.hid hD
                have hDl : D.length ≤ 200 := by rw [← hD]; exact Nat.le_trans (List.length_filter_le _ _) (by omega)
                obtain ⟨PD, hPD⟩ : ∃ P, pairsD M U dd = P := ⟨_, rfl⟩
                have HPD := Lib.hid (show dayF (mayD M U dd) U.length (D.length - 0) 0 (List.replicate D.length 2) (List.replicate U.length (-1)) = PD.drop 0 by rw [← hPD, ← hD]; rfl)
                rw [hD] at hlk HRD6 HFE HMR
                rw [hD, hPD] at HTK
                have HMD := Lib.hid (show mayD M U dd = D.map (rowM U) by unfold mayD; rw [hD])
                rw [hA1]
                have HA1 := Lib.hid hA1
                have hd1 : b1 < wo.heap.size := Nat.lt_of_lt_of_le hb1l HB.out.size
                have hk200 : k < 200 := by omega
                clear hF hrd6 hD hdm hy0 hy1 hrg hd hA1 hPD
                go_wp2_with (fail)
                refine (newm_p D U A6 B c6 d wo HRD6.out (HTW.out.to HB.out).u H.out.us (by omega) (by omega)).mono ?_
                rintro e w5 ⟨x, rows, rfl, hm5, hmay, hxm, hxu, hb5⟩
                have HM5 := Lib.hid hm5
                have HMAY := Lib.hid (show mayR rows = mayD M U dd by rw [hmay, HMD.out])
                have HXM := Lib.hid hxm
                have HXU := Lib.hid hxu
                have HB5 := Lib.hid hb5
                have HD5 := Lib.hid (HD3.out.to hb5)
                have hlk5 := (HD5.out.map).choose_spec.2.lookD HWF.out
                rw [HF.out, HDe.out] at hlk5
                clear hm5 hmay hxm hxu hb5
                go_wp2_with (fail)
                go_loopw [119] (fun iv wr3 => ∃ (i n2 : Nat) (need : List Nat) (us : List Int), i ≤ D.length ∧ iv = .int .i64 i ∧ n2 ≤ k * 200 + i ∧ MpV wr3 3 gp n2 (.agg #[.int .i64 0, .int .i64 0]) (fun j => prV (putAll (fun _ => (0, 0)) (pairL M U (DS.take k) ++ ((D.map Dty.m).zip PD).take i) j)) ∧ MatS wo.heap.size x rows need us wr3 ∧ NeedAt D.length i need ∧ Fresh us ∧ us.length = U.length ∧ Feas (mayD M U dd) D.length need us ∧ dayF (mayD M U dd) U.length (D.length - i) i need us = PD.drop i ∧ Below wb.heap.size wb wr3 ∧ Rd dtE 4 wr3 wr3.heap.size A6 D ∧ wo.heap.size ≤ wr3.heap.size) (fun i _ => D.length - (intOf i).toNat)
                case atStart => exact ⟨0, n, _, _, by omega, rfl, by omega, by rw [List.take_zero, List.append_nil]; exact HP.out.to HB5.out, HM5.out, NeedAt.start _, fresh_rep _, by simp, HFE.out, HPD.out, cur_step1 HB.out HB5.out, HRD6.out.to HB5.out, HB5.out.size⟩
                case round =>
                  clear HM5 HFE HPD HB5 HD5 hlk hlk5
                  obtain ⟨i, n2, need, us, hi, rfl, hn2, hp, hm, hna, hfr, hul, hfe, hdf, hb, hrd, hwo⟩ := hrel
                  have HP2 := Lib.hid hp
                  have HM2 := Lib.hid hm
                  have HNA := Lib.hid hna
                  have HFR := Lib.hid hfr
                  have HUL := Lib.hid hul
                  have HFE := Lib.hid hfe
                  have HDF := Lib.hid hdf
                  have HBi := Lib.hid hb
                  have HRi := Lib.hid hrd
                  have HWO := Lib.hid hwo
                  clear hp hm hna hfr hul hfe hdf hb hrd hwo
                  rename World => wi
                  by_cases hil : i < D.length
                  · obtain ⟨⟨ym, yd, yh, ya⟩, hy⟩ : ∃ y, D[i]? = some y := ⟨_, List.getElem?_eq_getElem hil⟩
                    have hyr := HMR.out _ (List.mem_of_getElem? hy)
                    dsimp only at hyr
                    have HWY := Lib.hid (wf_i (x := ym) (by omega) (by omega))
                    obtain ⟨b6, off6, hA6, hb6l, hc6⟩ := HRi.out i _ hy
                    obtain ⟨c0, c1', c2, c3⟩ := dt_cells hc6
                    dsimp only at c0 c1' c2 c3
                    obtain ⟨pa, pb, hch, hpo, hpbl, hfe2, -⟩ := choose_spec (may := mayD M U dd) (nm := D.length) (m := i) HFR.out HNA.out.len hil (by rw [HMD.out]; simpa using hil) (by rw [HNA.out.at_ i hil, if_neg (by omega)]) HFE.out
                    rw [HUL.out] at hch
                    have hdf2 : (((pa : Int), (pb : Int)) :: dayF (mayD M U dd) U.length (D.length - (i + 1)) (i + 1) (need.set i 0) (bar2 us pa pb)) = PD.drop i := by
                      have e := HDF.out
                      rw [show D.length - i = (D.length - (i + 1)) + 1 by omega] at e
                      unfold dayF at e
                      rw [hch] at e
                      exact e
                    have hpi : PD[i]? = some ((pa : Int), (pb : Int)) := by
                      have := congrArg (·[0]?) hdf2
                      simp at this
                      exact this.symm
                    have HDF2 := Lib.hid (show dayF (mayD M U dd) U.length (D.length - (i + 1)) (i + 1) (need.set i 0) (bar2 us pa pb) = PD.drop (i + 1) by
                      have := congrArg List.tail hdf2
                      simpa using this)
                    have HNX := Lib.hid (show pairL M U (DS.take k) ++ ((D.map Dty.m).zip PD).take (i + 1) = (pairL M U (DS.take k) ++ ((D.map Dty.m).zip PD).take i) ++ [(ym, ((pa : Int), (pb : Int)))] by
                      rw [List.append_assoc, List.take_add_one]
                      congr 2
                      rw [(List.getElem?_zip_eq_some (z := (ym, ((pa : Int), (pb : Int))))).2 ⟨by rw [List.getElem?_map, hy, Option.map_some], hpi⟩]
                      rfl)
                    have HCH := Lib.hid hch
                    have HFE2 := Lib.hid hfe2
                    rw [hA6]
                    have HA6 := Lib.hid hA6
                    have hi200 : i < 200 := by omega
                    clear hc6 hy hyr hch hpo hpbl hfe2 hdf2 hpi hA6
                    go_upto_region 36 with (fail)
                    have hb7 := cur_new wi (.cells #[.int .i64 ym, .int .i64 yd, .string yh, .string ya] 29)
                    have hk7 := Blk.new wi 29 [.int .i64 ym, .int .i64 yd, .string yh, .string ya]
                    generalize wi.alloc (.cells #[.int .i64 ym, .int .i64 yd, .string yh, .string ya] 29) = w7 at hb7 hk7 ⊢
                    obtain ⟨g7, hg7⟩ : ∃ q, wi.heap.size = q := ⟨_, rfl⟩
                    rw [hg7] at hk7 ⊢
                    have HG7 := Lib.hid (show ∀ b ∈ x.bs rows, b < g7 from fun b hb => by have := (HM2.out.inB b hb).2; omega)
                    have HK7 := Lib.hid hk7
                    have HB7 := Lib.hid hb7
                    have HGW := Lib.hid hg7
                    clear hb7 hk7 hg7 c0 c1' c2 c3
                    refine wp_absA (cbF gp g7 ym x.bX i (.agg #[.int .i64 pa, .int .i64 pb])) (fun (_ : Unit) (w' : World) => MpV w' 3 gp (n2 + 1) (.agg #[.int .i64 0, .int .i64 0]) (fun j => prV (putAll (fun _ => (0, 0)) (pairL M U (DS.take k) ++ ((D.map Dty.m).zip PD).take (i + 1)) j)) ∧ MatS wo.heap.size x rows (need.set i 0) (bar2 us pa pb) w' ∧ Far (gp :: (adB x.U ++ adB x.N)) wi w') ?reg ?beh
                    case reg =>
                      refine wp_region_held_drew (S := fun w' => Blk w' g7 29 [.int .i64 ym, .int .i64 yd, .string yh, .string ya]) (by kernel_rfl) (HK7.out.to (cur_drew w7 1)) (fun hS => ?_)
                      obtain ⟨u0, hu0⟩ : ∃ W, w7.drew = W := ⟨_, rfl⟩
                      have HBu0 := Lib.hid (show Below wi.heap.size wi u0 by rw [← hu0]; exact cur_step1 HB7.out (cur_drew w7 1))
                      have HMu0 := Lib.hid (HM2.out.to HBu0.out)
                      rw [hu0] at hS ⊢
                      clear hu0
                      refine wpAnyH_take (i := 0) (v := ?_) rfl (by kernel_rfl) (by kernel_rfl) (by kernel_rfl) (fun _ _ _ h => nomatch h.1) (Or.inl ⟨by rfl, ?_⟩) hS ?_
                      rotate_left
                      · intro w' _
                        go_simp
                        try with_reducible rfl
                      refine wpAnyH_take (i := 1) (v := ?_) rfl (by kernel_rfl) (by kernel_rfl) (by kernel_rfl) (fun _ _ _ h => nomatch h.1) (Or.inl ⟨by rfl, ?_⟩) hS ?_
                      rotate_left
                      · intro w' _
                        go_simp
                        try with_reducible rfl
                      refine wpAnyH_take (i := 2) (v := .int .i64 ym) rfl (by kernel_rfl) (by kernel_rfl) (by kernel_rfl) (fun _ _ _ h => nomatch h.1) (Or.inl ⟨by rfl, ?_⟩) hS ?_
                      · intro w' hw'
                        have q0 : w'.cell? ⟨g7, 0, none⟩ = some (.int .i64 ym) := hw'.cell 0
                        go_simp
                      refine wpAnyH_take (i := 3) (v := ?_) rfl (by kernel_rfl) (by kernel_rfl) (by kernel_rfl) (fun _ _ _ h => nomatch h.1) (Or.inl ⟨by rfl, ?_⟩) hS ?_
                      rotate_left
                      · intro w' _
                        go_simp
                        try with_reducible rfl
                      refine wpAnyH_take (i := 4) (v := ?_) rfl (by kernel_rfl) (by kernel_rfl) (by kernel_rfl) (fun _ _ _ h => nomatch h.1) (Or.inl ⟨by rfl, ?_⟩) hS ?_
                      rotate_left
                      · intro w' _
                        go_simp
                        try with_reducible rfl
                      refine wpAnyH_ready (rs := [5]) (by kernel_rfl) (by simp) ?_
                      refine AllReadyH.cons rfl (fun K' hK => ?_) AllReadyH.nil
                      go_simp
                      have hcp := choose_p wo.heap.size x rows need us i u0 (by rw [HXU.out]; omega) (by rw [HXM.out]; omega) (by rw [HXM.out]; exact hil) HFR.out (by rw [HNA.out.at_ i hil, if_neg (by omega)]) (fun q hq => by
                        obtain ⟨j, hj, he⟩ := List.getElem_of_mem hq
                        have h1 := HNA.out.at_ j (by have := HNA.out.len; omega)
                        rw [List.getElem?_eq_getElem hj, he] at h1
                        have h1 : q = if j < i then 0 else 2 := h1
                        split at h1 <;> omega) HMu0.out
                      rw [HMAY.out, HXU.out, HCH.out] at hcp
                      dsimp only at hcp
                      refine hcp.mono ?_
                      rintro e u1 ⟨rfl, hm1, hf1⟩
                      have hS1 : Blk u1 g7 29 [.int .i64 ym, .int .i64 yd, .string yh, .string ya] := hS.far hf1 (fun e => by
                        have h1 := HG7.out g7 (by unfold Mx.bs; rcases List.mem_append.1 e with e | e <;> simp [e])
                        omega)
                      have HMu1 := Lib.hid hm1
                      have HFu1 := Lib.hid hf1
                      dsimp only
                      refine hK.out _ _ hS1 (fun hS => ?_)
                      clear hK K' hcp hm1 hf1 hS1
                      refine wpAnyH_ready (rs := [6]) (by kernel_rfl) (by simp) ?_
                      refine AllReadyH.cons rfl (fun K' hK => ?_) AllReadyH.nil
                      refine step_put (Maps.int_keyed Try.underlying3) Try.underlying64 (fun x hx => Maps.keyOf_int_mk Try.underlying3 hx) u1 rfl (.tmp 124) (.tmp 126) (.tmp 129) rfl gp n2 (.agg #[.int .i64 0, .int .i64 0]) _ ym (.agg #[.int .i64 pa, .int .i64 pb]) (by rfl) (by rfl) (by rfl) ((HP2.out.to HBu0.out).far HFu1.out (fun e => by
                        have h1 := (HM2.out.inB gp (by unfold Mx.bs; rcases List.mem_append.1 e with e | e <;> simp [e])).1
                        have h2 := HPL.out
                        omega)) (by unfold maxLen; omega) HWY.out ?_
                      intro u2 hm2 hg2
                      refine hK.out _ _ (hS.far (Far.grown hg2 (bs := [gp]) (fun b hb => by injection hb with hb; simp [hb])) (by simp; have h1 := HPL.out; have h2 := HGW.out; have h3 := HWO.out; omega)) (fun hS => ?_)
                      clear hK K'
                      refine wpAnyH_done (by kernel_rfl) ?_ _
                      refine ⟨rfl, (), ?fra, ?con⟩
                      case fra => unfold cbF; go_simp
                      case con =>
                        have hfg : Far [gp] u1 u2 := Far.grown hg2 (fun b hb => by injection hb with hb; simp [hb])
                        refine ⟨?_, HMu1.out.far hfg (fun b hb e => by simp at e; have h1 := (HMu1.out.inB b hb).1; have h2 := HPL.out; omega), ((Far.of (bs := gp :: (adB x.U ++ adB x.N)) HBu0.out).trans HFu1.out (fun y hy => Or.inl (by simp only [List.mem_cons]; exact Or.inr hy))).trans hfg (fun y hy => Or.inl (by simp at hy; simp [hy]))⟩
                        have hfun : (fun j => prV (putAll (fun _ => (0, 0)) (pairL M U (DS.take k) ++ ((D.map Dty.m).zip PD).take (i + 1)) j)) = putI (fun j => prV (putAll (fun _ => (0, 0)) (pairL M U (DS.take k) ++ ((D.map Dty.m).zip PD).take i) j)) ym (.agg #[.int .i64 pa, .int .i64 pb]) := by
                          funext j
                          rw [HNX.out, putAll_snoc]
                          by_cases e : j = ym
                          · simp [putI, prV, e]
                          · simp [putI, e]
                        rw [hfun]
                        exact hm2
                    case beh =>
                      rintro ⟨⟩ w9 ⟨hp, hm, hf⟩
                      have HPF := Lib.hid hp
                      have HMF := Lib.hid hm
                      have HBF := Lib.hid (show Below wb.heap.size wb w9 from HBi.out.trans (hf.below HBi.out.size (fun y hy => by
                        rcases List.mem_cons.1 hy with e | e
                        · subst e; exact HGB.out
                        · have h1 := (HM2.out.inB y (by unfold Mx.bs; rcases List.mem_append.1 e with e | e <;> simp [e])).1
                          have h2 := HB.out.size
                          omega)))
                      have HRF := Lib.hid (show Rd dtE 4 w9 w9.heap.size A6 D from rd_far HRi.out hf (fun b hb e => by
                        have h1 := HA6N.out b hb
                        rcases List.mem_cons.1 e with e | e
                        · exact h1.1 e
                        · have h2 := (HM2.out.inB b (by unfold Mx.bs; rcases List.mem_append.1 e with e | e <;> simp [e])).1
                          omega))
                      have HWF2 := Lib.hid (show wo.heap.size ≤ w9.heap.size from Nat.le_trans HWO.out hf.size)
                      clear hp hm hf
                      unfold cbF
                      try dsimp only
                      go_simp
                      go_wp2_with (fail)
                      first
                      | (go_roundw
                         case rel => exact ⟨i + 1, n2 + 1, _, _, by omega, by simp, by omega, HPF.out, HMF.out, HNA.out.next hil, bar2_fresh HFR.out _ _, by rw [bar2_len]; exact HUL.out, HFE2.out, HDF2.out, HBF.out, by rw [← HA6.out]; exact HRF.out, HWF2.out⟩
                         case measure => simp [intOf]; omega)
                      | exact ⟨⟨i + 1, n2 + 1, _, _, by omega, by simp, by omega, HPF.out, HMF.out, HNA.out.next hil, bar2_fresh HFR.out _ _, by rw [bar2_len]; exact HUL.out, HFE2.out, HDF2.out, HBF.out, by rw [← HA6.out]; exact HRF.out, HWF2.out⟩, by simp [intOf]; omega⟩
                  · have HPE := Lib.hid (show MpV wi 3 gp n2 (.agg #[.int .i64 0, .int .i64 0]) (fun j => prV (putAll (fun _ => (0, 0)) (pairL M U (DS.take (k + 1))) j)) by
                      have h := HP2.out
                      rw [show ((D.map Dty.m).zip PD).take i = (D.map Dty.m).zip PD from List.take_of_length_le (by rw [List.length_zip, List.length_map]; omega), ← HTK.out] at h
                      exact h)
                    go_wp2_with (fail)
                    first
                    | (go_roundw
                       case rel => exact ⟨k + 1, n2, by omega, by simp, by omega, HPE.out, HBi.out⟩
                       case measure => simp [intOf]; omega)
                    | exact ⟨⟨k + 1, n2, by omega, by simp, by omega, HPE.out, HBi.out⟩, by simp [intOf]; omega⟩
              · have HPE := Lib.hid (show MpV wo 3 gp n (.agg #[.int .i64 0, .int .i64 0]) (fun j => prV (pairF M U j)) by
                  have h := HP.out
                  rw [List.take_of_length_le (by omega), ← HDSe.out] at h
                  exact h)
                have HWO := Lib.hid (cur_step1 HW.out HB.out)
                have HTO := Lib.hid (HTW.out.to HB.out)
                have HPR := Lib.hid (show ∀ x ∈ M, ∃ a b : Nat, pairF M U x.m = ((a : Int), (b : Int)) ∧ a < U.length ∧ b < U.length from pair_rng HBN.out)
                clear HP HB
                go_wp2_with (fail)
                go_loopw [25, 134] (fun v iv wr6 => ∃ (i : Nat) (A9 : Option Addr) (c9 : Nat), i ≤ M.length ∧ v = .slice A9 ((M.take i).map (outE M U)).length c9 ∧ iv = .int .i64 i ∧ OwnL apE 3 43 wo.heap.size wr6 (.slice A9 ((M.take i).map (outE M U)).length c9) ((M.take i).map (outE M U)) ∧ Below wo.heap.size wo wr6) (fun _ i _ => M.length - (intOf i).toNat)
                case atStart => exact ⟨0, none, 0, by omega, rfl, rfl, World.ownsRow_nil _ _ _ _, Below.refl _ _⟩
                case round =>
                  obtain ⟨i, A9, c9, hi, rfl, rfl, ho, hb⟩ := hrel
                  have HO := Lib.hid ho
                  have HBi := Lib.hid hb
                  clear ho hb
                  rename World => wi
                  by_cases hil : i < M.length
                  · obtain ⟨x0, hx⟩ : ∃ x, M[i]? = some x := ⟨_, List.getElem?_eq_getElem hil⟩
                    have hrg := HOK.out.rng x0 (List.mem_of_getElem? hx)
                    obtain ⟨pa, pb, hpf, hpa, hpb⟩ := HPR.out x0 (List.mem_of_getElem? hx)
                    have HNX := Lib.hid (show (M.take (i + 1)).map (outE M U) = (M.take i).map (outE M U) ++ [⟨x0.m, nmU U pa, nmU U pb⟩] by rw [List.take_add_one, hx, List.map_append]; simp [outE, hpf])
                    obtain ⟨xm, xd, xh, xa⟩ := x0
                    dsimp only at hrg hpf HNX
                    obtain ⟨b1, off1, hA1, hb1l, hcl⟩ := HTO.out.m.at_ HBi.out hx
                    obtain ⟨c0, c1, c2, c3⟩ := dt_cells hcl
                    dsimp only at c0 c1 c2 c3
                    have hb1w : b1 < wi.heap.size := Nat.lt_of_lt_of_le hb1l HBi.out.size
                    have HWF := Lib.hid (wf_i (x := xm) (by omega) (by omega))
                    obtain ⟨ya, hya⟩ : ∃ y, U[pa]? = some y := ⟨_, List.getElem?_eq_getElem hpa⟩
                    obtain ⟨yb, hyb⟩ : ∃ y, U[pb]? = some y := ⟨_, List.getElem?_eq_getElem hpb⟩
                    have hna : nmU U (pa : Int) = ya.nm := by unfold nmU; rw [show ((pa : Int)).toNat = pa by omega, hya]; rfl
                    have hnb : nmU U (pb : Int) = yb.nm := by unfold nmU; rw [show ((pb : Int)).toNat = pb by omega, hyb]; rfl
                    rw [hna, hnb] at HNX
                    obtain ⟨bB, offB, hBB, hbBl, hcB⟩ := HTO.out.u.rd pa ya hya
                    obtain ⟨bB2, offB2, hBB2, _, hcB2⟩ := HTO.out.u.rd pb yb hyb
                    rw [hBB] at hBB2
                    injection hBB2 with hBB2
                    injection hBB2 with q1 q2 _
                    subst q1 q2
                    obtain ⟨na, -, -⟩ := um_cells hcB
                    obtain ⟨nb, -, -⟩ := um_cells hcB2
                    have HNA := Lib.hid na
                    have HNB := Lib.hid nb
                    have HPF := Lib.hid hpf
                    have HBL := Lib.hid hbBl
                    rw [hA1, hBB]
                    have HA1 := Lib.hid hA1
                    have HBB := Lib.hid hBB
                    have hi200 : i < 200 := by omega
                    clear hcl hx hrg hA1 hya hyb hna hnb hcB hcB2 hBB na nb hpf hbBl
                    go_upto_region 43 with (fail)
                    have hb3 := cur_new wi (.cells #[.int .i64 xm, .int .i64 xd, .string xh, .string xa] 29)
                    have hk3 := Blk.new wi 29 [.int .i64 xm, .int .i64 xd, .string xh, .string xa]
                    generalize wi.alloc (.cells #[.int .i64 xm, .int .i64 xd, .string xh, .string xa] 29) = w3 at hb3 hk3 ⊢
                    obtain ⟨g7, hg7⟩ : ∃ y, wi.heap.size = y := ⟨_, rfl⟩
                    rw [hg7] at hk3 ⊢
                    have hlk := (HPE.out.to (cur_step1 HBi.out hb3)).lookP HWF.out
                    rw [HPF.out] at hlk
                    have hlk : Sem.run Try.prog (Instr.lookup 64 (.map (some gp)) (.int .i64 xm) false) w3 = .ok (.agg #[.int .i64 pa, .int .i64 pb]) w3 := hlk
                    have d0 : w3.cell? ⟨g7, 0, none⟩ = some (.int .i64 xm) := hk3.cell 0
                    have dl := hk3.lt
                    have HK3 := Lib.hid hk3
                    have HB3 := Lib.hid hb3
                    have HG78 := Lib.hid (show wi.heap.size ≤ g7 ∧ wi.heap.size ≤ w3.heap.size from ⟨Nat.le_of_eq hg7, hb3.size⟩)
                    clear hb3 hk3 hg7 c0 c1 c2 c3
                    obtain ⟨w4, hw4⟩ : ∃ W, w3.alloc (.cells (prL (pa : Int) (pb : Int)).toArray 65) = W := ⟨_, rfl⟩
                    have HB4 := Lib.hid (show Below wi.heap.size wi w4 by rw [← hw4]; exact cur_step1 HB3.out (cur_new _ _))
                    obtain ⟨g8, hg8⟩ : ∃ q, w3.heap.size = q := ⟨_, rfl⟩
                    have HK4 := Lib.hid (show Blk w4 g8 65 (prL (pa : Int) (pb : Int)) ∧ Blk w4 g7 29 [.int .i64 xm, .int .i64 xd, .string xh, .string xa] by rw [← hw4, ← hg8]; exact ⟨Blk.new _ _ _, HK3.out.to (cur_new _ _)⟩)
                    have S4 := Lib.hid hw4
                    have HG8E := Lib.hid hg8
                    clear hw4 hg8
                    go_upto_region 44 with (refine wpList_storeNew rfl _ _ 65 rfl _ (prL (pa : Int) (pb : Int)).toArray (by kernel_rfl) (by rfl) (by rfl) rfl (by simp [prL, Value.oneCell']) ?_; rw [S4.out])
                    rw [HG8E.out] at HG78 ⊢
                    have HNA4 := Lib.hid (show w4.cell? ⟨bB, offB + pa * 3, none⟩ = some (.string ya.nm) ∧ w4.cell? ⟨bB, offB + pb * 3, none⟩ = some (.string yb.nm) from
                      ⟨((cur_step1 HBi.out HB4.out).cell (p := ⟨bB, offB + pa * 3, none⟩) HBL.out).trans HNA.out, ((cur_step1 HBi.out HB4.out).cell (p := ⟨bB, offB + pb * 3, none⟩) HBL.out).trans HNB.out⟩)
                    have HBW := Lib.hid (show bB < w4.heap.size from Nat.lt_of_lt_of_le HBL.out (cur_step1 HBi.out HB4.out).size)
                    obtain ⟨N, hN⟩ : ∃ N, (M.take i).map (outE M U) = N := ⟨_, rfl⟩
                    have HNl := Lib.hid (show N.length = i by rw [← hN]; simp; omega)
                    rw [hN] at HO HNX ⊢
                    clear hN hlk d0 dl
                    refine wp_absA (ccF bB offB U.length d g7 g8 xm pa pb A9 c9 N.length ya.nm yb.nm) (fun (z : Ca) (w' : World) => OwnL apE 3 43 wo.heap.size w' (.slice (some ⟨z.g, 0, none⟩) (N.length + 1) z.cap) (N ++ [⟨xm, ya.nm, yb.nm⟩]) ∧ Below wo.heap.size wo w') ?reg ?beh
                    case reg =>
                      refine wp_region_held_drew (S := fun w' => Blk w' g7 29 [.int .i64 xm, .int .i64 xd, .string xh, .string xa] ∧ Blk w' g8 65 (prL (pa : Int) (pb : Int)) ∧ w'.cell? ⟨bB, offB + pa * 3, none⟩ = some (.string ya.nm) ∧ w'.cell? ⟨bB, offB + pb * 3, none⟩ = some (.string yb.nm)) (by kernel_rfl) ⟨HK4.out.2.to (cur_drew w4 1), HK4.out.1.to (cur_drew w4 1), HNA4.out.1, HNA4.out.2⟩ (fun hS => ?_)
                      obtain ⟨u0, hu0⟩ : ∃ W, w4.drew = W := ⟨_, rfl⟩
                      have HBu0 := Lib.hid (show Below wi.heap.size wi u0 by rw [← hu0]; exact cur_step1 HB4.out (cur_drew w4 1))
                      have HBWu := Lib.hid (show bB < u0.heap.size by rw [← hu0]; exact HBW.out)
                      rw [hu0] at hS ⊢
                      clear hu0
                      refine wpAnyH_take (i := 0) (v := ?_) rfl (by kernel_rfl) (by kernel_rfl) (by kernel_rfl) (fun _ _ _ h => nomatch h.1) (Or.inl ⟨by rfl, ?_⟩) hS ?_
                      rotate_left
                      · intro w' _
                        go_simp
                        try with_reducible rfl
                      refine wpAnyH_take (i := 1) (v := ?_) rfl (by kernel_rfl) (by kernel_rfl) (by kernel_rfl) (fun _ _ _ h => nomatch h.1) (Or.inl ⟨by rfl, ?_⟩) hS ?_
                      rotate_left
                      · intro w' _
                        go_simp
                        try with_reducible rfl
                      refine wpAnyH_take (i := 2) (v := .int .i64 xm) rfl (by kernel_rfl) (by kernel_rfl) (by kernel_rfl) (fun _ _ _ h => nomatch h.1) (Or.inl ⟨by rfl, ?_⟩) hS ?_
                      · intro w' hw'
                        have q0 : w'.cell? ⟨g7, 0, none⟩ = some (.int .i64 xm) := hw'.1.cell 0
                        have q1 : w'.cell? ⟨g8, 0, none⟩ = some (.int .i64 pa) := hw'.2.1.cell 0
                        have q2 : w'.cell? ⟨g8, 1, none⟩ = some (.int .i64 pb) := hw'.2.1.cell 1
                        have q3 := hw'.2.2.1
                        have q4 := hw'.2.2.2
                        go_simp
                      refine wpAnyH_take (i := 3) (v := ?_) rfl (by kernel_rfl) (by kernel_rfl) (by kernel_rfl) (fun _ _ _ h => nomatch h.1) (Or.inl ⟨by rfl, ?_⟩) hS ?_
                      rotate_left
                      · intro w' _
                        go_simp
                        try with_reducible rfl
                      refine wpAnyH_take (i := 4) (v := ?_) rfl (by kernel_rfl) (by kernel_rfl) (by kernel_rfl) (fun _ _ _ h => nomatch h.1) (Or.inl ⟨by rfl, ?_⟩) hS ?_
                      rotate_left
                      · intro w' _
                        go_simp
                        try with_reducible rfl
                      refine wpAnyH_take (i := 5) (v := .int .i64 pa) rfl (by kernel_rfl) (by kernel_rfl) (by kernel_rfl) (fun _ _ _ h => nomatch h.1) (Or.inl ⟨by rfl, ?_⟩) hS ?_
                      · intro w' hw'
                        have q0 : w'.cell? ⟨g7, 0, none⟩ = some (.int .i64 xm) := hw'.1.cell 0
                        have q1 : w'.cell? ⟨g8, 0, none⟩ = some (.int .i64 pa) := hw'.2.1.cell 0
                        have q2 : w'.cell? ⟨g8, 1, none⟩ = some (.int .i64 pb) := hw'.2.1.cell 1
                        have q3 := hw'.2.2.1
                        have q4 := hw'.2.2.2
                        go_simp
                      refine wpAnyH_take (i := 6) (v := ?_) rfl (by kernel_rfl) (by kernel_rfl) (by kernel_rfl) (fun _ _ _ h => nomatch h.1) (Or.inl ⟨by rfl, ?_⟩) hS ?_
                      rotate_left
                      · intro w' _
                        go_simp
                        try with_reducible rfl
                      refine wpAnyH_take (i := 7) (v := ?_) rfl (by kernel_rfl) (by kernel_rfl) (by kernel_rfl) (fun _ _ _ h => nomatch h.1) (Or.inl ⟨by rfl, ?_⟩) hS ?_
                      rotate_left
                      · intro w' _
                        go_simp
                        try with_reducible rfl
                      refine wpAnyH_take (i := 8) (v := .string ya.nm) rfl (by kernel_rfl) (by kernel_rfl) (by kernel_rfl) (fun _ _ _ h => nomatch h.1) (Or.inl ⟨by rfl, ?_⟩) hS ?_
                      · intro w' hw'
                        have q0 : w'.cell? ⟨g7, 0, none⟩ = some (.int .i64 xm) := hw'.1.cell 0
                        have q1 : w'.cell? ⟨g8, 0, none⟩ = some (.int .i64 pa) := hw'.2.1.cell 0
                        have q2 : w'.cell? ⟨g8, 1, none⟩ = some (.int .i64 pb) := hw'.2.1.cell 1
                        have q3 := hw'.2.2.1
                        have q4 := hw'.2.2.2
                        go_simp
                      refine wpAnyH_take (i := 9) (v := ?_) rfl (by kernel_rfl) (by kernel_rfl) (by kernel_rfl) (fun _ _ _ h => nomatch h.1) (Or.inl ⟨by rfl, ?_⟩) hS ?_
                      rotate_left
                      · intro w' _
                        go_simp
                        try with_reducible rfl
                      refine wpAnyH_take (i := 10) (v := ?_) rfl (by kernel_rfl) (by kernel_rfl) (by kernel_rfl) (fun _ _ _ h => nomatch h.1) (Or.inl ⟨by rfl, ?_⟩) hS ?_
                      rotate_left
                      · intro w' _
                        go_simp
                        try with_reducible rfl
                      refine wpAnyH_take (i := 11) (v := .int .i64 pb) rfl (by kernel_rfl) (by kernel_rfl) (by kernel_rfl) (fun _ _ _ h => nomatch h.1) (Or.inl ⟨by rfl, ?_⟩) hS ?_
                      · intro w' hw'
                        have q0 : w'.cell? ⟨g7, 0, none⟩ = some (.int .i64 xm) := hw'.1.cell 0
                        have q1 : w'.cell? ⟨g8, 0, none⟩ = some (.int .i64 pa) := hw'.2.1.cell 0
                        have q2 : w'.cell? ⟨g8, 1, none⟩ = some (.int .i64 pb) := hw'.2.1.cell 1
                        have q3 := hw'.2.2.1
                        have q4 := hw'.2.2.2
                        go_simp
                      refine wpAnyH_take (i := 12) (v := ?_) rfl (by kernel_rfl) (by kernel_rfl) (by kernel_rfl) (fun _ _ _ h => nomatch h.1) (Or.inl ⟨by rfl, ?_⟩) hS ?_
                      rotate_left
                      · intro w' _
                        go_simp
                        try with_reducible rfl
                      refine wpAnyH_take (i := 13) (v := ?_) rfl (by kernel_rfl) (by kernel_rfl) (by kernel_rfl) (fun _ _ _ h => nomatch h.1) (Or.inl ⟨by rfl, ?_⟩) hS ?_
                      rotate_left
                      · intro w' _
                        go_simp
                        try with_reducible rfl
                      refine wpAnyH_take (i := 14) (v := .string yb.nm) rfl (by kernel_rfl) (by kernel_rfl) (by kernel_rfl) (fun _ _ _ h => nomatch h.1) (Or.inl ⟨by rfl, ?_⟩) hS ?_
                      · intro w' hw'
                        have q0 : w'.cell? ⟨g7, 0, none⟩ = some (.int .i64 xm) := hw'.1.cell 0
                        have q1 : w'.cell? ⟨g8, 0, none⟩ = some (.int .i64 pa) := hw'.2.1.cell 0
                        have q2 : w'.cell? ⟨g8, 1, none⟩ = some (.int .i64 pb) := hw'.2.1.cell 1
                        have q3 := hw'.2.2.1
                        have q4 := hw'.2.2.2
                        go_simp
                      refine wpAnyH_take (i := 15) (v := .agg #[.int .i64 xm, .string ya.nm, .string yb.nm]) rfl (by kernel_rfl) (by kernel_rfl) (by kernel_rfl) (fun _ _ _ h => nomatch h.1) (Or.inl ⟨by rfl, ?_⟩) hS ?_
                      · intro w' hw'
                        have q0 : w'.cell? ⟨g7, 0, none⟩ = some (.int .i64 xm) := hw'.1.cell 0
                        have q1 : w'.cell? ⟨g8, 0, none⟩ = some (.int .i64 pa) := hw'.2.1.cell 0
                        have q2 : w'.cell? ⟨g8, 1, none⟩ = some (.int .i64 pb) := hw'.2.1.cell 1
                        have q3 := hw'.2.2.1
                        have q4 := hw'.2.2.2
                        go_simp
                      refine wpAnyH_ready (rs := [16]) (by kernel_rfl) (by simp) ?_
                      refine AllReadyH.cons rfl (fun K' hK => ?_) AllReadyH.nil
                      go_simp
                      obtain ⟨u2, hu2⟩ : ∃ y, u0.alloc (.cells (apE ⟨xm, ya.nm, yb.nm⟩).toArray 43) = y := ⟨_, rfl⟩
                      have HBu2 := Lib.hid (show Below u0.heap.size u0 u2 by rw [← hu2]; exact cur_new _ _)
                      have HKu2 := Lib.hid (show u2.heap[u0.heap.size]? = some (.cells (apE ⟨xm, ya.nm, yb.nm⟩).toArray 43 (0, 0)) by rw [← hu2]; exact heap_alloc_new _ _)
                      have hS2 : Blk u2 g7 29 [.int .i64 xm, .int .i64 xd, .string xh, .string xa] ∧ Blk u2 g8 65 (prL (pa : Int) (pb : Int)) ∧ u2.cell? ⟨bB, offB + pa * 3, none⟩ = some (.string ya.nm) ∧ u2.cell? ⟨bB, offB + pb * 3, none⟩ = some (.string yb.nm) :=
                        ⟨hS.1.to HBu2.out, hS.2.1.to HBu2.out, (HBu2.out.cell (p := ⟨bB, offB + pa * 3, none⟩) HBWu.out).trans hS.2.2.1, (HBu2.out.cell (p := ⟨bB, offB + pb * 3, none⟩) HBWu.out).trans hS.2.2.2⟩
                      refine hK.out _ _ (by rw [← hu2] at hS2; exact hS2) (fun _ => ?_)
                      clear hK K'
                      change wpAnyH _ _ _ _ _ _ _ _ (u0.alloc (.cells (apE ⟨xm, ya.nm, yb.nm⟩).toArray 43))
                      rw [hu2]
                      clear hu2
                      refine wpAnyH_ready (rs := [17]) (by kernel_rfl) (by simp) ?_
                      refine AllReadyH.cons rfl (fun K' hK => ?_) AllReadyH.nil
                      refine step_app1 Try.apElem u2 rfl (.tmp 142) (.tmp 158) rfl wo.heap.size A9 c9 N (by rfl) (own_below (own_below HO.out HBu0.out (Nat.le_refl _)) HBu2.out (Nat.le_refl _)) ⟨xm, ya.nm, yb.nm⟩ u0.heap.size 1 (by rfl) HKu2.out (by unfold maxLen; have := HNl.out; omega) (by have := HNl.out; omega) (cur_step1 (cur_step1 HBi.out HBu0.out) HBu2.out).size ?_
                      intro g9 cap9 u3 ha9
                      have HFA := Lib.hid (show Far (adB A9) u2 u3 from Far.grown ha9.grown (fun b hb => adB_own hb))
                      have HOF := Lib.hid (show OwnL apE 3 43 wo.heap.size u3 (.slice (some ⟨g9, 0, none⟩) (N.length + 1) cap9) (N ++ [⟨xm, ya.nm, yb.nm⟩]) from ha9.one rfl)
                      have HIN := Lib.hid (show ∀ b ∈ adB A9, wo.heap.size ≤ b ∧ b < wi.heap.size from own_in HO.out)
                      have HG78 := Lib.hid (show wi.heap.size ≤ g7 ∧ wi.heap.size ≤ g8 from HG78.out)
                      have hS3 : Blk u3 g7 29 [.int .i64 xm, .int .i64 xd, .string xh, .string xa] ∧ Blk u3 g8 65 (prL (pa : Int) (pb : Int)) ∧ u3.cell? ⟨bB, offB + pa * 3, none⟩ = some (.string ya.nm) ∧ u3.cell? ⟨bB, offB + pb * 3, none⟩ = some (.string yb.nm) := by
                        have hbn : bB ∉ adB A9 := fun e => by have h1 := (HIN.out bB e).1; have h2 := HBL.out; omega
                        have hbk := HFA.out.block bB (Nat.lt_of_lt_of_le HBWu.out HBu2.out.size) hbn
                        exact ⟨hS2.1.far HFA.out (fun e => by have h1 := (HIN.out g7 e).2; have h2 := HG78.out.1; omega), hS2.2.1.far HFA.out (fun e => by have h1 := (HIN.out g8 e).2; have h2 := HG78.out.2; omega), (World.cell?_of_block (a := ⟨bB, offB + pa * 3, none⟩) hbk).trans hS2.2.2.1, (World.cell?_of_block (a := ⟨bB, offB + pb * 3, none⟩) hbk).trans hS2.2.2.2⟩
                      refine hK.out _ _ hS3 (fun hS => ?_)
                      clear hK K' ha9
                      refine wpAnyH_ready (rs := [18]) (by kernel_rfl) (by simp) ?_
                      refine AllReadyH.cons rfl (fun K' hK => ?_) AllReadyH.nil
                      go_simp
                      refine hK.out _ _ hS (fun hS => ?_)
                      clear hK K'
                      refine wpAnyH_done (by kernel_rfl) ?_ _
                      refine ⟨rfl, ⟨u0.heap.size, g9, cap9⟩, ?fra, HOF.out, (cur_step1 (cur_step1 HBi.out HBu0.out) HBu2.out).trans (HFA.out.below (cur_step1 (cur_step1 HBi.out HBu0.out) HBu2.out).size (fun b hb => (HIN.out b hb).1))⟩
                      case fra => unfold ccF; go_simp
                    case beh =>
                      rintro ⟨b7, g9, cap9⟩ w9 ⟨ho, hb⟩
                      dsimp only at ho hb
                      have HOF := Lib.hid ho
                      have HBF := Lib.hid hb
                      clear ho hb
                      unfold ccF
                      dsimp only
                      go_simp
                      go_wp2_with (fail)
                      first
                      | (go_roundw
                         case rel => exact ⟨i + 1, some ⟨g9, 0, none⟩, cap9, by omega, by rw [HNX.out, List.length_append]; rfl, by simp, by rw [HNX.out, List.length_append]; exact HOF.out, HBF.out⟩
                         case measure => simp [intOf]; omega)
                      | exact ⟨⟨i + 1, some ⟨g9, 0, none⟩, cap9, by omega, by rw [HNX.out, List.length_append]; rfl, by simp, by rw [HNX.out, List.length_append]; exact HOF.out, HBF.out⟩, by simp [intOf]; omega⟩
                  · have HMF := Lib.hid (show (M.take i).map (outE M U) = M.map (outE M U) by rw [List.take_of_length_le (by omega)])
                    rw [HMF.out] at HO ⊢
                    have HRF := Lib.hid (own_rd apE_len HO.out)
                    go_wp2_with (fail)
                    go_ret3
                    exact ⟨⟨A9, c9, none, 0, by rw [HRE.out]; rfl, by rw [HRE.out]; exact HRF.out, by rw [HRE.out]; exact Rd.nil_⟩, cur_step1 HWO.out HBi.out⟩
  · have HE := Lib.hid (show appR M U = ([], [], ck) by unfold appR; rw [if_pos (by rw [hck]; exact hc0), hck])
    have e3 : (ck == 0) = false := by simpa using hc0
    clear hc0 hck
    go_wp2_with fail
    go_ret3
    exact ⟨⟨none, 0, none, 0, by rw [HE.out]; rfl, by rw [HE.out]; exact Rd.nil_, by rw [HE.out]; exact Rd.nil_⟩, HB1.out⟩
end Go.Proofs.Ytckbhdokfkabfaa
