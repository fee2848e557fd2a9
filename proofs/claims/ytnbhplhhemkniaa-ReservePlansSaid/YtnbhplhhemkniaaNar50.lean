/-
  Chapter 50: narrow: the two lists are made.
-/
import Derived.Test.YtnbhplhhemkniaaNext50
import Derived.Test.YtnbhplhhemkniaaTight50
import Derived.Test.YtnbhplhhemkniaaApp
import Derived.Test.YtnbhplhhemkniaaStr
import Derived.Deep.RegionHeld3
namespace Go.Proofs.Ytnbhplhhemkniaa
open Go.RowKit
set_option maxRecDepth 100000
set_option maxHeartbeats 4000000
theorem Try.infoI64 : (Try.prog.info? 2).map (fun i => (i.zero, i.size, i.bytes)) = some (some (.int .i64 0), 1, 8) := by kernel_rfl
theorem Try.i64Elem : ElemOf Try.prog inE 1 8 28 2 := .mk' Try.infoI64 rfl Try.underlying28 (by decide) inE_len (fun x u hu => by simp [inE] at hu; subst hu; rfl)
def NarR (js : List Jb) (w : World) (F T i : Value) (wr : World) : Prop := ∃ (k : Nat) (A B : Option Addr) (c d : Nat), k ≤ js.length ∧ i = .int .i64 k ∧ F = .slice A k c ∧ T = .slice B k d ∧
  OwnL inE 1 2 (w.heap.size + 1) wr (.slice A k c) ((js.take k).map Jb.f) ∧ OwnL inE 1 2 (w.heap.size + 1) wr (.slice B k d) ((js.take k).map Jb.t) ∧
  (∀ a b, A = some a → B = some b → a.block ≠ b.block) ∧ Blk wr w.heap.size 30 [.int .i64 0, .int .i64 0] ∧ Below w.heap.size w wr
structure NSt (w wx : World) (g : Nat) (z : Jb) (F T : Value) (lF lT : List Int) : Prop where
  of : OwnL inE 1 2 (w.heap.size + 1) wx F lF
  ot : OwnL inE 1 2 (w.heap.size + 1) wx T lT
  ne : ∀ k, F.ownBlock = some k → T.ownBlock ≠ some k
  kw : Blk wx w.heap.size 30 [.int .i64 0, .int .i64 0]
  bl : Below w.heap.size w wx
  kz : Blk wx g 43 [.int .i64 z.f, .int .i64 z.t]
  hg : w.heap.size < g
  fg : F.ownBlock ≠ some g
  tg : T.ownBlock ≠ some g
theorem own_lo {w : World} {base e size n : Nat} {v : Value} {xs : List Value} (h : w.ownsRow base e size v n xs) {k : Nat} (hk : v.ownBlock = some k) : base ≤ k ∧ k < w.heap.size := own_range h k hk
theorem own_app {w w' : World} {base e size n m g cap : Nat} {v : Value} {xs news : List Value} {base' e' size' n' : Nat} {u : Value} {ys : List Value} (ha : App w w' base e size v g cap n m xs news) (h : w.ownsRow base' e' size' u n' ys)
    (hne : ∀ k, v.ownBlock = some k → u.ownBlock ≠ some k) : w'.ownsRow base' e' size' u n' ys :=
  own_keep h fun k hk => ha.grown.block k (own_lo h hk).2 fun e => hne k e.symm hk
theorem NSt.drew {w wx : World} {g : Nat} {z : Jb} {F T : Value} {lF lT : List Int} (h : NSt w wx g z F T lF lT) : NSt w wx.drew g z F T lF lT := ⟨h.of, h.ot, h.ne, h.kw, h.bl.drew, h.kz, h.hg, h.fg, h.tg⟩
theorem NSt.alloc {w wx : World} {g : Nat} {z : Jb} {F T : Value} {lF lT : List Int} (h : NSt w wx g z F T lF lT) (o : Obj) : NSt w (wx.alloc o) g z F T lF lT :=
  ⟨World.ownsRow.alloc h.of o, World.ownsRow.alloc h.ot o, h.ne, h.kw.to (cur_new _ _), cur_step1 h.bl (cur_new _ _), h.kz.to (cur_new _ _), h.hg, h.fg, h.tg⟩
theorem NSt.appF {w wx w' : World} {g : Nat} {z : Jb} {A : Option Addr} {c gf cf : Nat} {T : Value} {lF lT : List Int} {x : Int} (h : NSt w wx g z (.slice A lF.length c) T lF lT)
    (ha : App wx w' (w.heap.size + 1) 2 1 (.slice A lF.length c) gf cf lF.length 1 (lF.flatMap inE) (inE x)) : NSt w w' g z (.slice (some ⟨gf, 0, none⟩) (lF.length + 1) cf) T (lF ++ [x]) lT := by
  have hgf : (Value.slice A lF.length c).ownBlock = some gf ∨ gf = wx.heap.size := ha.at_
  have hbl := h.bl.size
  have lw := h.kw.lt
  have lz := h.kz.lt
  refine ⟨ha.one rfl, own_app ha h.ot h.ne, ?_, ?_, ?_, ?_, h.hg, ?_, h.tg⟩
  · intro k hk hT
    injection hk with hk
    have hk : gf = k := hk
    subst hk
    rcases hgf with e | e
    · exact h.ne _ e hT
    · have := (own_lo h.ot hT).2; omega
  · unfold Blk; rw [ha.grown.block _ lw (fun e => by have := (own_lo h.of e.symm).1; omega)]; exact h.kw
  · exact h.bl.grown ha.grown hbl (fun k hk => by have := (own_lo h.of hk).1; omega)
  · unfold Blk; rw [ha.grown.block _ lz (fun e => h.fg e.symm)]; exact h.kz
  · intro e
    injection e with e
    have e : gf = g := e
    subst e
    rcases hgf with e | e
    · exact h.fg e
    · omega
theorem NSt.swap {w wx : World} {g : Nat} {z : Jb} {F T : Value} {lF lT : List Int} (h : NSt w wx g z F T lF lT) : NSt w wx g z T F lT lF := ⟨h.ot, h.of, fun k h1 h2 => h.ne k h2 h1, h.kw, h.bl, h.kz, h.hg, h.tg, h.fg⟩
theorem two_old (w : World) (o1 o2 : Obj) : ((w.alloc o1).alloc o2).heap[w.heap.size]? = some o1 := (Below.heap_alloc _ _ _ (by simp)).trans (heap_alloc_new w o1)
structure NT (w wx : World) (gF cF gT cT n : Nat) (LF LT : List Int) : Prop where
  of : OwnL inE 1 2 (w.heap.size + 1) wx (.slice (some ⟨gF, 0, none⟩) n cF) LF
  ot : OwnL inE 1 2 (w.heap.size + 1) wx (.slice (some ⟨gT, 0, none⟩) n cT) LT
  lf : LF.length = n
  lt : LT.length = n
  ne : gF ≠ gT
  kw : Blk wx w.heap.size 30 [.int .i64 0, .int .i64 0]
  bl : Below w.heap.size w wx
theorem NT.to {w wx w' : World} {gF cF gT cT n : Nat} {LF LT : List Int} (h : NT w wx gF cF gT cT n LF LT) (hb : Below wx.heap.size wx w') : NT w w' gF cF gT cT n LF LT :=
  ⟨own_below h.of hb (Nat.le_refl _), own_below h.ot hb (Nat.le_refl _), h.lf, h.lt, h.ne, h.kw.to hb, cur_step1 h.bl hb⟩
theorem NT.f {w wx w' : World} {gF cF gT cT n : Nat} {LF LT LF' : List Int} (h : NT w wx gF cF gT cT n LF LT) (h1 : OwnL inE 1 2 (w.heap.size + 1) w' (.slice (some ⟨gF, 0, none⟩) n cF) LF') (hl : LF'.length = n) (h2 : wx.grownBy w' (some gF)) : NT w w' gF cF gT cT n LF' LT := by
  have l1 := own_lo h.of (k := gF) rfl
  refine ⟨h1, own_keep h.ot fun k hk => h2.block k (own_lo h.ot hk).2 fun e => ?_, hl, h.lt, h.ne, ?_, ?_⟩
  · injection e with e; injection hk with hk; exact h.ne (e.symm.trans hk.symm)
  · unfold Blk; rw [h2.block _ h.kw.lt (fun e => by injection e with e; omega)]; exact h.kw
  · exact h.bl.grown h2 h.bl.size (fun k hk => by injection hk with hk; omega)
theorem NT.swap {w wx : World} {gF cF gT cT n : Nat} {LF LT : List Int} (h : NT w wx gF cF gT cT n LF LT) : NT w wx gT cT gF cF n LT LF := ⟨h.ot, h.of, h.lt, h.lf, fun e => h.ne e.symm, h.kw, h.bl⟩
theorem own_some {w : World} {base e size n n' c : Nat} {A : Option Addr} {xs : List Value} (h : w.ownsRow base e size (.slice A n c) n' xs) (hn : 0 < n) : ∃ g, A = some ⟨g, 0, none⟩ := by
  rcases h.2 with ⟨h0, _⟩ | ⟨g, cap, cur, h0, _⟩
  · injection h0 with _ h0 _; omega
  · injection h0 with h0 _ _; exact ⟨g, h0⟩
theorem ckT_facts {js : List Jb} {first : Int} {caps : List Int} (h : ckT js first caps = 0) : js.length ≤ 400 ∧ caps.length ≤ 400 ∧ 0 ≤ first ∧ first ≤ 109172 ∧ caps.all capOk = true ∧ ∀ j ∈ js, first ≤ j.f ∧ j.f ≤ j.t ∧ j.t ≤ first + caps.length - 1 := by
  unfold ckT at h
  split at h
  · omega
  split at h
  · omega
  split at h
  · rename_i h1 h2 h3
    refine ⟨by omega, by omega, by omega, by omega, h3, ?_⟩
    clear h1 h2 h3
    induction js with
    | nil => intro j hj; cases hj
    | cons a r ih =>
      unfold jErr at h
      split at h
      · omega
      split at h
      · omega
      intro j hj
      rcases List.mem_cons.1 hj with rfl | hj
      · omega
      · exact ih h j hj
  · omega
def NrO (js : List Jb) (first : Int) (caps : List Int) (w : World) (gF cF gT cT : Nat) (i : Value) (wr : World) : Prop := ∃ (k : Nat) (T : List Int), k ≤ (Lib.compact (sortL (js.map Jb.f))).length ∧ i = .int .i64 k ∧
  NT w wr gF cF gT cT js.length (Lib.compact (sortL (js.map Jb.f)) ++ List.replicate (js.length - (Lib.compact (sortL (js.map Jb.f))).length) 0) T ∧ TInv js T ∧
  (∀ p a, p < k → (Lib.compact (sortL (js.map Jb.f)))[p]? = some a → ∀ j ∈ js, badW js first caps a j.t = false)
def NrI (js : List Jb) (first : Int) (caps : List Int) (w : World) (gF cF gT cT : Nat) (T : List Int) (a : Int) (i : Value) (wr : World) : Prop := ∃ q : Nat, q ≤ (Lib.compact T).length ∧ i = .int .i64 q ∧
  NT w wr gF cF gT cT js.length (Lib.compact (sortL (js.map Jb.f)) ++ List.replicate (js.length - (Lib.compact (sortL (js.map Jb.f))).length) 0) (Lib.compact T ++ List.replicate (js.length - (Lib.compact T).length) 0) ∧
  (∀ p b, p < q → (Lib.compact T)[p]? = some b → badW js first caps a b = false)
theorem own_cell {w : World} {base e g n c : Nat} {l : List Int} (h : OwnL inE 1 e base w (.slice (some ⟨g, 0, none⟩) n c) l) {k : Nat} {x : Int} (hx : l[k]? = some x) : w.cell? ⟨g, k, none⟩ = some (.int .i64 x) := by
  have h1 := flat_at inE_len l k x hx 0 (.int .i64 x) rfl
  have h2 := World.ownsRow.cells (g := g) (show World.ownsRow _ _ _ _ _ _ _ from h) rfl _ _ h1
  simpa [Addr.add_lit] using h2
theorem own_cap2 {w : World} {base e n c : Nat} {A : Option Addr} {l : List Int} (h : OwnL inE 1 e base w (.slice A n c) l) (hl : l.length = n) : n ≤ c := by
  subst hl
  exact own_cap h
theorem win_info : (Try.prog.info? 30).map (·.size) = some 2 := by kernel_rfl
theorem narrow_p (A C : Option Addr) (jc cc : Nat) (js : List Jb) (caps : List Int) (first : Int) (w : World) (hjl : js.length ≤ 400) (hcl : caps.length ≤ 400) (h0 : 0 < js.length) (hck : ckT js first caps = 0) (hra : Rd jbE 2 w w.heap.size A js) (hrc : Rd inE 1 w w.heap.size C caps) :
    Calls Try.prog 23 #[.slice A js.length jc, .int .i64 first, .slice C caps.length cc] w fun e w' => ∃ x y, e = .returned (.agg #[.int .i64 x, .int .i64 y]) ∧ IsTight js first caps x y ∧ Below w.heap.size w w' := by
  have HA := Lib.hid hra
  have HC := Lib.hid hrc
  have HCK := Lib.hid (ckT_facts hck)
  have HPOS := Lib.hid (show ∀ b ∈ js, 0 ≤ b.t from fun b hb => by have h1 := (ckT_facts hck).2.2.1; have h2 := (ckT_facts hck).2.2.2.2.2 b hb; omega)
  clear hck
  have HB0 := Lib.hid (cur_new w (.cells #[.int .i64 0, .int .i64 0] 30))
  have HK0 := Lib.hid (Blk.new w 30 [.int .i64 0, .int .i64 0])
  clear hra hrc
  go_enter Try.func23, Try.ntmps23
  go_wp2_with fail
  go_loopw [7, 8, 18] (NarR js w) (fun _ _ i _ => js.length - (intOf i).toNat)
  case atStart => exact ⟨0, none, none, 0, 0, by omega, rfl, rfl, rfl, ⟨rfl, .inl ⟨rfl, rfl⟩⟩, ⟨rfl, .inl ⟨rfl, rfl⟩⟩, by simp, HK0.out, HB0.out⟩
  case round =>
    clear HB0 HK0
    obtain ⟨k, F, T, c, d, hk, rfl, rfl, rfl, hF, hT, hne, hK, hB⟩ := hrel
    have HF := Lib.hid hF
    have HT := Lib.hid hT
    have HNE := Lib.hid hne
    have HK := Lib.hid hK
    have HB := Lib.hid hB
    clear hF hT hne hK hB
    by_cases hlt : k < js.length
    · obtain ⟨z, hz⟩ : ∃ z, js[k]? = some z := ⟨_, List.getElem?_eq_getElem hlt⟩
      obtain ⟨b, off, rfl, hbb, hcl⟩ := HA.out.at_ HB.out hz
      obtain ⟨c0, c1⟩ := jb_cells hcl
      have HZ := Lib.hid hz
      clear hcl hz
      have hw := cur_new wr (.cells #[.int .i64 z.f, .int .i64 z.t] 43)
      have hbk := Blk.new wr 43 [.int .i64 z.f, .int .i64 z.t]
      have hlF : ((js.take k).map Jb.f).length = k := by rw [List.length_map, List.length_take]; omega
      have hlT : ((js.take k).map Jb.t).length = k := by rw [List.length_map, List.length_take]; omega
      have HLF := Lib.hid hlF
      have HLT := Lib.hid hlT
      generalize hf : (js.take k).map Jb.f = lF at HF HLF
      generalize ht : (js.take k).map Jb.t = lT at HT HLT
      have HFE := Lib.hid hf
      have HTE := Lib.hid ht
      clear hf ht hlF hlT
      have hbs := HB.out.size
      go_wp2_with fail
      obtain ⟨g, hg⟩ : ∃ g, g = wr.heap.size := ⟨_, rfl⟩
      obtain ⟨w4, hw4⟩ : ∃ w4, w4 = wr.alloc (Obj.cells #[.int .i64 z.f, .int .i64 z.t] 43) := ⟨_, rfl⟩
      rw [← hw4] at hw hbk
      rw [← hw4, ← hg]
      rw [← hg] at hbk
      have HW := Lib.hid hw
      have HBK := Lib.hid hbk
      have HGE := Lib.hid hg
      have hgl := hbk.lt
      have hgw : w.heap.size + 1 ≤ g := by have := HK.out.lt; omega
      have N4 := Lib.hid (show NSt w w4 g z (.slice F lF.length c) (.slice T lT.length d) lF lT from by
        rw [HLF.out, HLT.out, hw4]
        refine ⟨World.ownsRow.alloc HF.out _, World.ownsRow.alloc HT.out _, ?_, HK.out.to (cur_new _ _), cur_step1 HB.out (cur_new _ _), by rw [hg]; exact Blk.new wr _ _, by omega, ?_, ?_⟩
        · intro k1 h1 h2
          cases F with
          | none => cases h1
          | some a1 =>
            cases T with
            | none => cases h2
            | some a2 =>
              injection h1 with h1
              injection h2 with h2
              exact HNE.out a1 a2 rfl rfl (h1.trans h2.symm)
        · intro e; have := (own_lo HF.out e).2; omega
        · intro e; have := (own_lo HT.out e).2; omega)
      have q0 : w4.cell? ⟨g, 0, none⟩ = some (.int .i64 z.f) := hbk.cell 0
      have q1 : w4.cell? ⟨g, 1, none⟩ = some (.int .i64 z.t) := hbk.cell 1
      clear hw hbk hg hw4
      go_region_held3 (fun w' => w'.cell? ⟨g, 0, none⟩ = some (.int .i64 z.f) ∧ w'.cell? ⟨g, 1, none⟩ = some (.int .i64 z.t))
        (first
          | go_keep
          | exact ⟨N7.out.kz.cell 0, N7.out.kz.cell 1⟩
          | exact ⟨N6.out.kz.cell 0, N6.out.kz.cell 1⟩)
        (first
          | (refine step_app1 Try.i64Elem _ (by rfl) _ _ (by rfl) (w.heap.size + 1) F c lF (by rw [HLF.out]; rfl) ?own z.f (w4.heap.size) 1 (by rfl) ?hp (by rw [HLF.out]; unfold maxLen; omega) (by rw [HLF.out]; omega) ?sz ?_
             case own => exact NSt.of (g := g) (z := z) (T := .slice T lT.length d) (lT := lT) (by repeat (first | with_reducible exact N4.out | with_reducible refine NSt.drew ?_ | with_reducible refine NSt.alloc ?_ _))
             case hp => exact heap_alloc_new w4 _
             case sz => first | (simp; have := N4.out.bl.size; have := N4.out.kw.lt; omega)
             intro gf cf w6 haf
             have N6 := Lib.hid (NSt.appF (g := g) (z := z) (T := .slice T lT.length d) (lT := lT) (by repeat (first | with_reducible exact N4.out | with_reducible refine NSt.drew ?_ | with_reducible refine NSt.alloc ?_ _)) haf)
             clear haf)
          | (refine step_app1 Try.i64Elem _ (by rfl) _ _ (by rfl) (w.heap.size + 1) F c lF (by rw [HLF.out]; rfl) ?own z.f (w4.heap.size) 1 (by rfl) ?hp (by rw [HLF.out]; unfold maxLen; omega) (by rw [HLF.out]; omega) ?sz ?_
             case own => exact NSt.of (g := g) (z := z) (T := .slice T lT.length d) (lT := lT) (by repeat (first | with_reducible exact N4.out | with_reducible refine NSt.drew ?_ | with_reducible refine NSt.alloc ?_ _))
             case hp => exact two_old w4 (.cells #[.int .i64 z.f] 2) (.cells #[.int .i64 z.t] 2)
             case sz => first | (simp; have := N4.out.bl.size; have := N4.out.kw.lt; omega)
             intro gf cf w6 haf
             have N6 := Lib.hid (NSt.appF (g := g) (z := z) (T := .slice T lT.length d) (lT := lT) (by repeat (first | with_reducible exact N4.out | with_reducible refine NSt.drew ?_ | with_reducible refine NSt.alloc ?_ _)) haf)
             have HBT := Lib.hid (show w6.heap[w4.heap.size + 1]? = some (.cells #[.int .i64 z.t] 2) from (haf.grown.block _ (by first | (simp; done) | (simp; omega)) (fun e => by have := (own_lo N4.out.of e.symm).2; omega)).trans (two_new w4 (.cells #[.int .i64 z.f] 2) (.cells #[.int .i64 z.t] 2)))
             clear haf)
          | (refine step_app1 Try.i64Elem _ (by rfl) _ _ (by rfl) (w.heap.size + 1) F c lF (by rw [HLF.out]; rfl) ?own z.f (w4.heap.size + 1) 1 (by rfl) ?hp (by rw [HLF.out]; unfold maxLen; omega) (by rw [HLF.out]; omega) ?sz ?_
             case own => exact NSt.of (g := g) (z := z) (T := .slice T lT.length d) (lT := lT) (by repeat (first | with_reducible exact N4.out | with_reducible refine NSt.drew ?_ | with_reducible refine NSt.alloc ?_ _))
             case hp => exact two_new w4 (.cells #[.int .i64 z.t] 2) (.cells #[.int .i64 z.f] 2)
             case sz => first | (simp; have := N4.out.bl.size; have := N4.out.kw.lt; omega)
             intro gf cf w6 haf
             have N6 := Lib.hid (NSt.appF (g := g) (z := z) (T := .slice T lT.length d) (lT := lT) (by repeat (first | with_reducible exact N4.out | with_reducible refine NSt.drew ?_ | with_reducible refine NSt.alloc ?_ _)) haf)
             have HBT := Lib.hid (show w6.heap[w4.heap.size]? = some (.cells #[.int .i64 z.t] 2) from (haf.grown.block _ (by first | (simp; done) | (simp; omega)) (fun e => by have := (own_lo N4.out.of e.symm).2; omega)).trans (two_old w4 (.cells #[.int .i64 z.t] 2) (.cells #[.int .i64 z.f] 2)))
             clear haf)
          | (refine step_app1 Try.i64Elem _ (by rfl) _ _ (by rfl) (w.heap.size + 1) T d lT (by rw [HLT.out]; rfl) ?own z.t (w6.heap.size) 1 (by rfl) ?hp (by rw [HLT.out]; unfold maxLen; omega) (by rw [HLT.out]; omega) ?sz ?_
             case own => exact NSt.ot (g := g) (z := z) (F := (.slice (some ⟨gf, 0, none⟩) (lF.length + 1) cf)) (lF := lF ++ [z.f]) (by repeat (first | with_reducible exact N6.out | with_reducible refine NSt.drew ?_ | with_reducible refine NSt.alloc ?_ _))
             case hp => exact heap_alloc_new w6 _
             case sz => first | (simp; have := N6.out.bl.size; have := N6.out.kw.lt; omega) | (have := N6.out.bl.size; have := N6.out.kw.lt; omega)
             intro gt ct w7 hat
             have N7 := Lib.hid (NSt.appF (g := g) (z := z) (T := (.slice (some ⟨gf, 0, none⟩) (lF.length + 1) cf)) (lT := lF ++ [z.f]) (NSt.swap (by repeat (first | with_reducible exact N6.out | with_reducible refine NSt.drew ?_ | with_reducible refine NSt.alloc ?_ _))) hat)
             clear hat)
          | (refine step_app1 Try.i64Elem _ (by rfl) _ _ (by rfl) (w.heap.size + 1) T d lT (by rw [HLT.out]; rfl) ?own z.t (w4.heap.size + 1) 1 (by rfl) ?hp (by rw [HLT.out]; unfold maxLen; omega) (by rw [HLT.out]; omega) ?sz ?_
             case own => exact NSt.ot (g := g) (z := z) (F := (.slice (some ⟨gf, 0, none⟩) (lF.length + 1) cf)) (lF := lF ++ [z.f]) (by repeat (first | with_reducible exact N6.out | with_reducible refine NSt.drew ?_ | with_reducible refine NSt.alloc ?_ _))
             case hp => exact HBT.out
             case sz => first | (simp; have := N6.out.bl.size; have := N6.out.kw.lt; omega) | (have := N6.out.bl.size; have := N6.out.kw.lt; omega)
             intro gt ct w7 hat
             have N7 := Lib.hid (NSt.appF (g := g) (z := z) (T := (.slice (some ⟨gf, 0, none⟩) (lF.length + 1) cf)) (lT := lF ++ [z.f]) (NSt.swap (by repeat (first | with_reducible exact N6.out | with_reducible refine NSt.drew ?_ | with_reducible refine NSt.alloc ?_ _))) hat)
             clear hat)
          | (refine step_app1 Try.i64Elem _ (by rfl) _ _ (by rfl) (w.heap.size + 1) T d lT (by rw [HLT.out]; rfl) ?own z.t (w4.heap.size) 1 (by rfl) ?hp (by rw [HLT.out]; unfold maxLen; omega) (by rw [HLT.out]; omega) ?sz ?_
             case own => exact NSt.ot (g := g) (z := z) (F := (.slice (some ⟨gf, 0, none⟩) (lF.length + 1) cf)) (lF := lF ++ [z.f]) (by repeat (first | with_reducible exact N6.out | with_reducible refine NSt.drew ?_ | with_reducible refine NSt.alloc ?_ _))
             case hp => exact HBT.out
             case sz => first | (simp; have := N6.out.bl.size; have := N6.out.kw.lt; omega) | (have := N6.out.bl.size; have := N6.out.kw.lt; omega)
             intro gt ct w7 hat
             have N7 := Lib.hid (NSt.appF (g := g) (z := z) (T := (.slice (some ⟨gf, 0, none⟩) (lF.length + 1) cf)) (lT := lF ++ [z.f]) (NSt.swap (by repeat (first | with_reducible exact N6.out | with_reducible refine NSt.drew ?_ | with_reducible refine NSt.alloc ?_ _))) hat)
             clear hat))
      all_goals
        have hN := N7.out
        clear N7
        try clear HBT
        have e1 : (js.take (k + 1)).map Jb.f = lF ++ [z.f] := by rw [List.take_add_one, HZ.out, Option.toList_some, List.map_append, HFE.out]; rfl
        have e2 : (js.take (k + 1)).map Jb.t = lT ++ [z.t] := by rw [List.take_add_one, HZ.out, Option.toList_some, List.map_append, HTE.out]; rfl
        rw [HLF.out, HLT.out] at hN
        rw [HLF.out, HLT.out]
        have hR : NarR js w (.slice (some ⟨gf, 0, none⟩) (k + 1) cf) (.slice (some ⟨gt, 0, none⟩) (k + 1) ct) (.int .i64 ((k + 1 : Nat) : Int)) w7 := by
          refine ⟨k + 1, some ⟨gf, 0, none⟩, some ⟨gt, 0, none⟩, cf, ct, by omega, rfl, rfl, rfl, by rw [e1]; exact hN.ot, by rw [e2]; exact hN.of, ?_, hN.kw, hN.bl⟩
          intro a b h1 h2
          injection h1 with h1
          injection h2 with h2
          subst h1 h2
          intro h
          exact hN.ne gt rfl (by rw [show gt = gf from h.symm]; rfl)
        have HR := Lib.hid hR
        clear hN e1 e2 hR
        go_wp2
        go_roundw
        case rel => exact HR.out
        case measure => simp [intOf]; omega
    · have hkl : k = js.length := by omega
      subst hkl
      obtain ⟨gF, rfl⟩ := own_some (show World.ownsRow _ _ _ _ _ _ _ from HF.out) h0
      obtain ⟨gT, rfl⟩ := own_some (show World.ownsRow _ _ _ _ _ _ _ from HT.out) h0
      have N0 := Lib.hid (show NT w wr gF c gT d js.length (js.map Jb.f) (js.map Jb.t) from ⟨by have := HF.out; rwa [List.take_length] at this, by have := HT.out; rwa [List.take_length] at this, by simp, by simp, fun e => HNE.out _ _ rfl rfl e, HK.out, HB.out⟩)
      clear HF HT HNE HK HB hk hlt
      have hbs := N0.out.bl.size
      go_wp2_with fail
      go_at_call 26
      rw [show js.length = (js.map Jb.f).length by simp]
      refine (sort_o _ (w.heap.size + 1) gF c (js.map Jb.f) (by simpa using N0.out.of) (by simp; omega)).mono ?_
      rintro e w1 ⟨rfl, ho1, hg1⟩
      rw [show (js.map Jb.f).length = js.length by simp] at ho1 ⊢
      have N1 := Lib.hid (N0.out.f ho1 (by rw [sortL_len]; simp) hg1)
      clear ho1 hg1
      go_wp2_with fail
      go_at_call 26
      rw [show js.length = (js.map Jb.t).length by simp]
      refine (sort_o _ (w.heap.size + 1) gT d (js.map Jb.t) (by simpa using N1.out.ot) (by simp; omega)).mono ?_
      rintro e w2 ⟨rfl, ho2, hg2⟩
      rw [show (js.map Jb.t).length = js.length by simp] at ho2 ⊢
      have N2 := Lib.hid (N1.out.swap.f ho2 (by rw [sortL_len]; simp) hg2).swap
      clear ho2 hg2
      have hm1 := Lib.compact_length_le (sortL (js.map Jb.f))
      rw [sortL_len, List.length_map] at hm1
      go_wp2_with fail
      go_at_call 27
      have hq : (sortL (js.map Jb.f)).length = js.length := by rw [sortL_len]; simp
      rw [← hq]
      refine (compact_o _ (w.heap.size + 1) gF c (sortL (js.map Jb.f)) (by rw [hq]; exact N2.out.of) (by omega)).mono ?_
      rintro e w3 ⟨rfl, ho3, hg3⟩
      rw [hq] at ho3 ⊢
      have N3 := Lib.hid (N2.out.f ho3 (by rw [List.length_append, List.length_replicate]; omega) hg3)
      clear ho3 hg3 hq
      go_wp2_with fail
      have hcap := own_cap2 N3.out.of N3.out.lf
      have hcapT := own_cap2 N3.out.ot N3.out.lt
      go_loopw [40] (NrO js first caps w gF c gT d) (fun i _ => (Lib.compact (sortL (js.map Jb.f))).length - (intOf i).toNat)
      case atStart => exact ⟨0, _, by omega, rfl, N3.out, TInv.start HPOS.out, fun p a hp => by omega⟩
      case round =>
        clear N0 N1 N2 N3
        obtain ⟨k, T, hk, rfl, hN, hTI, hprev⟩ := hrel
        have N := Lib.hid hN
        have HTI := Lib.hid hTI
        have HP := Lib.hid hprev
        clear hN hTI hprev
        by_cases hlt : k < (Lib.compact (sortL (js.map Jb.f))).length
        · obtain ⟨a, ha⟩ : ∃ a, (Lib.compact (sortL (js.map Jb.f)))[k]? = some a := ⟨_, List.getElem?_eq_getElem hlt⟩
          have cf : wr.cell? ⟨gF, k, none⟩ = some (.int .i64 a) := own_cell N.out.of (by rw [List.getElem?_append_left hlt]; exact ha)
          have HAA := Lib.hid ha
          clear ha
          go_wp2_with fail
          go_at_call 27
          have hq : T.length = js.length := N.out.lt
          rw [← hq]
          refine (compact_o _ (w.heap.size + 1) gT d T (by rw [hq]; exact N.out.ot) (by omega)).mono ?_
          rintro e w4 ⟨rfl, ho4, hg4⟩
          rw [hq] at ho4 ⊢
          have hm2 := Lib.compact_length_le T
          rw [hq] at hm2
          have N4 := Lib.hid (N.out.swap.f ho4 (by rw [List.length_append, List.length_replicate]; omega) hg4).swap
          clear ho4 hg4 hq
          go_wp2_with fail
          go_loopw [47] (NrI js first caps w gF c gT d T a) (fun q _ => (Lib.compact T).length - (intOf q).toNat)
          case atStart => exact ⟨0, by omega, rfl, N4.out, fun p b hp => by omega⟩
          case round =>
            clear N4 cf
            obtain ⟨q, hq, rfl, hN5, hprev⟩ := hrel
            have N5 := Lib.hid hN5
            have HQ := Lib.hid hprev
            clear hN5 hprev
            by_cases hltq : q < (Lib.compact T).length
            · obtain ⟨b, hb⟩ : ∃ b, (Lib.compact T)[q]? = some b := ⟨_, List.getElem?_eq_getElem hltq⟩
              have cb : wr.cell? ⟨gT, q, none⟩ = some (.int .i64 b) := own_cell N5.out.ot (by rw [List.getElem?_append_left hltq]; exact hb)
              have HBB := Lib.hid hb
              clear hb
              by_cases hab : a ≤ b
              · have hd : decide (a ≤ b) = true := decide_eq_true hab
                obtain ⟨vi, hvi⟩ : ∃ vi, insT js a b = vi := ⟨_, rfl⟩
                obtain ⟨vr, hvr⟩ : ∃ vr, roomT a b first caps = vr := ⟨_, rfl⟩
                have HVI := Lib.hid hvi
                have HVR := Lib.hid hvr
                have HBW := Lib.hid (show badW js first caps a b = decide (vr < vi) by unfold badW; rw [hd, hvi, hvr, Bool.true_and])
                have hw := cur_new wr (.cells #[.int .i64 a, .int .i64 b] 30)
                have hbk := Blk.new wr 30 [.int .i64 a, .int .i64 b]
                have hvil : vi ≤ 400 := by rw [← hvi]; exact Nat.le_trans (insT_le _ _ _) hjl
                obtain ⟨CS, hCS⟩ : ∃ CS : List (Nat × Nat × Value), CS = [(wr.heap.size, 0, .int .i64 a), (wr.heap.size, 1, .int .i64 b)] := ⟨_, rfl⟩
                have K3 : Keep wr (wr.alloc (.cells #[.int .i64 a, .int .i64 b] 30)) CS := by
                  rw [hCS]
                  refine Keep.start hw ?_
                  intro c hc
                  simp only [List.mem_cons, List.mem_nil_iff, or_false] at hc
                  rcases hc with rfl | rfl
                  · exact ⟨hbk.lt, hbk.cell 0⟩
                  · exact ⟨hbk.lt, hbk.cell 1⟩
                have k0 : ∀ s : Wd wr CS, s.w.cell? ⟨wr.heap.size, 0, none⟩ = some (.int .i64 a) := fun s => s.h.get (by simp [hCS])
                have k1 : ∀ s : Wd wr CS, s.w.cell? ⟨wr.heap.size, 1, none⟩ = some (.int .i64 b) := fun s => s.h.get (by simp [hCS])
                have HRA := Lib.hid (show ∀ s : Wd wr CS, Rd jbE 2 s.w s.w.heap.size A js from fun s => HA.out.to (cur_step1 N5.out.bl s.h.1))
                have HRC := Lib.hid (show ∀ s : Wd wr CS, Rd inE 1 s.w s.w.heap.size C caps from fun s => HC.out.to (cur_step1 N5.out.bl s.h.1))
                have hex : ∀ s : Wd wr CS, ∃ s' : Wd wr CS, s.w = s'.w := fun s => ⟨s, rfl⟩
                haveI hne : Nonempty (Wd wr CS) := ⟨⟨_, K3⟩⟩
                have HCS := Lib.hid hCS
                clear hCS hvi hvr hw hbk
                go_wp2_with fail
                refine wp_region_wd wr CS (by kernel_rfl) (by kernel_rfl) K3.drew ?_
                repeat (go_big_quiet_step (first
                  | (go_at_call 16; refine (inside_p _ _ _ _ _ _ (by omega) (HRA.out _)).mono ?_; rintro e w4 ⟨rfl, hb4⟩; exact ⟨rfl, ⟨w4, (Wd.h _).to hb4⟩, rfl⟩)
                  | (go_at_call 14; refine (room_p _ _ _ _ _ _ _ hcl (HRC.out _)).mono ?_; rintro e w4 ⟨rfl, hb4⟩; exact ⟨rfl, ⟨w4, (Wd.h _).to hb4⟩, rfl⟩)))
                refine wpQuiet_nil ?_
                rintro w6 ⟨s6, hs6⟩
                have K6 : Keep wr w6 CS := by rw [hs6]; exact s6.h
                clear hs6 s6
                rw [HCS.out] at K6
                clear k0 k1 hex hne K3 HCS HRA HRC CS
                (try simp only [])
                rw [HVI.out, HVR.out]
                have N6 := Lib.hid (N5.out.to K6.1)
                have q0 := K6.get (b := wr.heap.size) (o := 0) (v := .int .i64 a) (by simp)
                have q1 := K6.get (b := wr.heap.size) (o := 1) (v := .int .i64 b) (by simp)
                clear K6
                by_cases hhit : vr < (vi : Int)
                · have hdd : decide (vr < (vi : Int)) = true := decide_eq_true hhit
                  have HTG := Lib.hid (show IsTight js first caps a b from hit_tight HCK.out.2.2.2.2.1 hcl (fun j hj => by have h1 := HCK.out.2.2.1; have h2 := HCK.out.2.2.2.2.2 j hj; omega) ((sortL_sorted _).sublist (compact_sub _))
                    (fun x => by rw [mem_compact, sortL_mem, List.mem_map]) HTI.out.compact HAA.out HBB.out (by rw [HBW.out]; exact hdd) HP.out HQ.out)
                  have kw := N6.out.kw
                  have z0 : w6.cell? ⟨w.heap.size, 0, none⟩ = some (.int .i64 0) := kw.cell 0
                  have z1 : w6.cell? ⟨w.heap.size, 1, none⟩ = some (.int .i64 0) := kw.cell 1
                  have f0 := kw.frozen 0
                  have f1 := kw.frozen 1
                  have HKW := Lib.hid kw
                  clear kw
                  rw [hdd]
                  go_wp2_with fail
                  refine ret_cell (g := w.heap.size) (xs := [.int .i64 a, .int .i64 b]) rfl rfl ((HKW.out.set 0 (.int .i64 a)).set 1 (.int .i64 b)) Try.underlying30 rfl win_info rfl ?_
                  exact ⟨a, b, rfl, HTG.out, below_set (below_set N6.out.bl (Nat.le_refl _) 0 _) (Nat.le_refl _) 1 _⟩
                · have hdd : decide (vr < (vi : Int)) = false := decide_eq_false hhit
                  have HNX := Lib.hid (show ∀ p b', p < q + 1 → (Lib.compact T)[p]? = some b' → badW js first caps a b' = false from by
                    intro p b' hp hb'
                    by_cases hpq : p = q
                    · subst hpq
                      rw [HBB.out] at hb'
                      injection hb' with hb'
                      subst hb'
                      rw [HBW.out]; exact hdd
                    · exact HQ.out p b' (by omega) hb')
                  rw [hdd]
                  go_wp2_with fail
                  go_roundw
                  case rel => exact ⟨q + 1, hltq, by simp, N6.out, HNX.out⟩
                  case measure => simp [intOf]; omega
              · have hd : decide (a ≤ b) = false := decide_eq_false hab
                have HNX := Lib.hid (show ∀ p b', p < q + 1 → (Lib.compact T)[p]? = some b' → badW js first caps a b' = false from by
                  intro p b' hp hb'
                  by_cases hpq : p = q
                  · subst hpq
                    rw [HBB.out] at hb'
                    injection hb' with hb'
                    subst hb'
                    unfold badW
                    rw [hd]; rfl
                  · exact HQ.out p b' (by omega) hb')
                go_wp2_with fail
                go_quiet (fail)
                go_wp2
                go_roundw
                case rel => exact ⟨q + 1, hltq, by simp, N5.out.to (cur_step1 (cur_new _ _) (cur_drew _ _)), HNX.out⟩
                case measure => simp [intOf]; omega
            · have HNK := Lib.hid (show ∀ p a', p < k + 1 → (Lib.compact (sortL (js.map Jb.f)))[p]? = some a' → ∀ j ∈ js, badW js first caps a' j.t = false from by
                intro p a' hp ha' j hj
                by_cases hpk : p = k
                · subst hpk
                  rw [HAA.out] at ha'
                  injection ha' with ha'
                  subst ha'
                  obtain ⟨r, hr⟩ := List.getElem?_of_mem ((mem_compact T j.t).2 (HTI.out.all j hj))
                  exact HQ.out r j.t (by have := (List.getElem?_eq_some_iff.1 hr).1; omega) hr
                · exact HP.out p a' (by omega) ha' j hj)
              have hTZ := HTI.out.compact.zeros (js.length - (Lib.compact T).length)
              have HTZ := Lib.hid hTZ
              clear hTZ
              go_wp2_with fail
              go_roundw
              case rel => exact ⟨k + 1, _, hlt, by simp, N5.out, HTZ.out, HNK.out⟩
              case measure => simp [intOf]; omega
        · have hke : k = (Lib.compact (sortL (js.map Jb.f))).length := by omega
          have kw := N.out.kw
          have z0 : wr.cell? ⟨w.heap.size, 0, none⟩ = some (.int .i64 0) := kw.cell 0
          have z1 : wr.cell? ⟨w.heap.size, 1, none⟩ = some (.int .i64 0) := kw.cell 1
          have f0 := kw.frozen 0
          have f1 := kw.frozen 1
          have HKW := Lib.hid kw
          have HNONE := Lib.hid (show IsTight js first caps 0 0 from .inr ⟨rfl, rfl, fun a ha b hb => by
            obtain ⟨r, hr⟩ := List.getElem?_of_mem ((mem_compact _ a.f).2 ((sortL_mem _ _).2 (List.mem_map.2 ⟨a, ha, rfl⟩)))
            exact HP.out r a.f (by have := (List.getElem?_eq_some_iff.1 hr).1; omega) hr b hb⟩)
          clear kw
          go_wp2_with fail
          refine ret_cell (g := w.heap.size) (xs := [.int .i64 0, .int .i64 0]) rfl rfl ((HKW.out.set 0 (.int .i64 0)).set 1 (.int .i64 0)) Try.underlying30 rfl win_info rfl ?_
          exact ⟨0, 0, rfl, HNONE.out, below_set (below_set N.out.bl (Nat.le_refl _) 0 _) (Nat.le_refl _) 1 _⟩
end Go.Proofs.Ytnbhplhhemkniaa
