/-
  Texts of one chapter, put together (a claim holds at most sixty files).
-/
import Derived.Test.YtdbiihfoafoljaaGreatDoorApp
import Derived.Great.BuildSlice
import Derived.Test.YtdbiihfoafoljaaGreatDoorArcK
set_option linter.unusedSimpArgs false
set_option linter.unusedVariables false
namespace Go.Proofs.YtdbiihfoafoljaaGreatDoor
section
/-! A slice literal of whole structs: the new block's cells stay a term. -/
open Go.RowKit
theorem fill_enc {α : Type} {enc : α → List Value} {size : Nat} (hs : 0 < size) (hl : ∀ x, (enc x).length = size) (l : List α) (cells : Array Value) (hc : cells.size = l.length * size) :
    Instr.fill (fun i => some (i * size, size)) cells (((l.map fun x => Value.agg (enc x).toArray).zipIdx 0).map fun x => (x.2, x.1)) = some (l.flatMap enc).toArray := by
  obtain ⟨r, hr, hsz, hk⟩ := Great.fill_dense hs (l.map fun x => Value.agg (enc x).toArray) 0 cells (fun v hv => by obtain ⟨x, _, rfl⟩ := List.mem_map.1 hv; simp [Value.cells, hl]) (by simp [hc])
  rw [hr]
  congr 1
  apply Array.ext_getElem?
  intro k
  rw [hk k]
  have hfl := flat_length hl l
  by_cases hlt : k < l.length * size
  · rw [if_pos ⟨by omega, by simpa using hlt⟩]
    have hd : k / size < l.length := by rw [Nat.div_lt_iff_lt_mul hs]; exact hlt
    obtain ⟨x, hx⟩ : ∃ x, l[k / size]? = some x := ⟨_, List.getElem?_eq_getElem hd⟩
    have hm : k % size < (enc x).length := by rw [hl]; exact Nat.mod_lt _ hs
    have h1 := flat_at hl l (k / size) x hx (k % size) _ (List.getElem?_eq_getElem hm)
    rw [show k / size * size + k % size = k by rw [Nat.mul_comm]; exact Nat.div_add_mod k size] at h1
    simp only [Nat.sub_zero, List.getElem?_map, hx, Option.map_some, Option.bind_some, Value.cells, List.getElem?_toArray, h1]
    exact List.getElem?_eq_getElem hm
  · rw [if_neg (by simp; omega)]
    rw [Array.getElem?_eq_none (by omega), List.getElem?_toArray, List.getElem?_eq_none (by omega)]
section
variable {α : Type} {P : Program} {enc : α → List Value} {size bytes : Nat} {t e : TypeId}
theorem wpList_buildE (E : ElemOf P enc size bytes t e) {ops : Array Oper} {rest : List Oper} {o : Oper} {a : Act} {w : World} {Q : Exit → Act → World → Prop} (hg : o.guard = none) (n : Nat) (parts : Array (Nat × Operand)) (ho : o.op = .buildSlice t n parts)
    (l : List α) (hn : l.length = n) (hpos : 0 < n) (hsm : n * size ≤ 1000000) (hp : (parts.toList.map fun (x : Nat × Operand) => (x.1, a.eval x.2)) = ((l.map fun x => Value.agg (enc x).toArray).zipIdx 0).map fun x => (x.2, x.1))
    (h : wpList P ops Q rest (a.put o.dst (.slice (some ⟨w.heap.size, 0, none⟩) n n)) (w.alloc (.cells (l.flatMap enc).toArray e))) : wpList P ops Q (o :: rest) a w := by
  obtain ⟨z, i, hi, h0, h1, h2, hzs⟩ := E.info
  have hne : ¬ n * i.size = 0 := by rw [h1]; have := Nat.mul_pos hpos E.pos; omega
  refine wpList_buildSlice hg t e n parts ho _ i z E.ty hi h0 (by rw [h1]; omega) hne ?_ h
  rw [Array.toList_map, h1, show (fun x : Nat × Operand => match x with | (i, x) => (i, a.eval x)) = (fun x : Nat × Operand => (x.1, a.eval x.2)) from rfl, hp]
  exact fill_enc E.pos E.len l _ (by simp [hn])
end
end

section
/-! Chapter 58: Log of the program and of the reference; few of the laws. -/
open Go.RowKit
set_option maxRecDepth 100000
set_option maxHeartbeats 4000000
theorem Tryz.infoEv : (Tryz.prog.info? 38).map (fun i => (i.zero, i.size, i.bytes)) = some (some (.agg (evE zeroE).toArray), 19, 136) := by kernel_rfl
theorem Tryz.infoEnt : (Tryz.prog.info? 40).map (fun i => (i.zero, i.size, i.bytes)) = some (some (.agg (entE ⟨0, zeroE, ByteArray.empty⟩).toArray), 21, 160) := by kernel_rfl
theorem Tryz.enElem : ElemOf Tryz.prog entE 21 160 22 40 := .mk' Tryz.infoEnt rfl Tryz.underlying22 (by decide) entE_len ent_one'
theorem own_base {w : World} {base e size n : Nat} {v : Value} {xs : List Value} (h : w.ownsRow base e size v n xs) : ∀ k, v.ownBlock = some k → base ≤ k := fun k hk => (own_range h k hk).1
/-- A row of the call's own that grows by one in each round. -/
def GrR {α β : Type} (enc : β → List Value) (size : Nat) (e : TypeId) (f : α → β) (l : List α) (b : Nat) (w : World) (v iv : Value) (wr : World) : Prop :=
  ∃ (k : Nat) (A : Option Addr) (c : Nat), k ≤ l.length ∧ iv = .int .i64 k ∧ v = .slice A ((l.take k).map f).length c ∧ OwnL enc size e b wr v ((l.take k).map f) ∧ w.heap.size ≤ b ∧ Below w.heap.size w wr ∧ b ≤ wr.heap.size

end

section
/-! Chapter 58: few of the laws. -/
open Go.RowKit
set_option maxRecDepth 100000
set_option maxHeartbeats 4000000
def cut20 (x : Ent) : Ent := ⟨x.id, x.ev, x.sc.extract 0 (min x.sc.size 20)⟩
def fewA (l : List Ent) : List Ent := (l.take 12).map cut20
theorem cut20_sc (x : Ent) : (cut20 x).sc.size ≤ 20 := by unfold cut20; simp only [ByteArray.size_extract]; omega
theorem fewA_len (l : List Ent) : (fewA l).length ≤ 12 := by unfold fewA; simp; omega
theorem fewA_sc (l : List Ent) : ∀ x ∈ fewA l, x.sc.size ≤ 20 := by
  intro x hx
  obtain ⟨y, _, rfl⟩ := List.mem_map.1 hx
  exact cut20_sc y
theorem few_p (l0 : List Ent) (A0 : Option Addr) (c0 : Nat) (w : World) (hn : l0.length ≤ c0) (hc : c0 ≤ 9223372036854775807) (hsc : ∀ x ∈ l0, x.sc.size ≤ 9223372036854775807) (hrd : Rd entE 21 w w.heap.size A0 l0) :
    Calls Tryz.prog 6 #[.slice A0 l0.length c0] w fun e' w' => (∃ v, e' = .returned v ∧ OwnL entE 21 40 w.heap.size w' v (fewA l0)) ∧ Below w.heap.size w w' := by
  obtain ⟨n, hn0⟩ : ∃ n, l0.length = n := ⟨_, rfl⟩
  rw [hn0] at hn ⊢
  obtain ⟨l, hl0⟩ : ∃ l, l0.take 12 = l := ⟨_, rfl⟩
  have HF := Lib.hid (show fewA l0 = l.map cut20 by unfold fewA; rw [hl0])
  have hlen : min n 12 = l.length := by rw [← hl0, ← hn0]; simp; omega
  have HRD := Lib.hid (show Rd entE 21 w w.heap.size A0 l by rw [← hl0]; exact hrd.pre 12)
  have HSC := Lib.hid (show ∀ x ∈ l, x.sc.size ≤ 9223372036854775807 by intro x hx; rw [← hl0] at hx; exact hsc x (List.mem_of_mem_take hx))
  have hl : l.length ≤ 12 := by omega
  have hmin : min (n : Int) 12 = (l.length : Nat) := by omega
  have h1 : (l.length : Int) ≤ c0 := by omega
  have h2 : ¬ (c0 : Int) < l.length := by omega
  clear hrd hsc hl0 hn0
  go_enter Tryz.func6, Tryz.ntmps6
  go_wp2_with (fail)
  go_loopw [3, 12] (GrR entE 21 40 cut20 l w.heap.size w) (fun _ i _ => l.length - (intOf i).toNat)
  case atStart => exact ⟨0, _, _, by omega, rfl, rfl, World.ownsRow_nil _ _ _ _, Nat.le_refl _, Below.refl _ _, Nat.le_refl _⟩
  case round =>
    obtain ⟨k, A, c, hk, rfl, rfl, hown, _, hb, _⟩ := hrel
    have HO := Lib.hid hown
    have HB := Lib.hid hb
    clear hown hb
    by_cases hkl : k < l.length
    · obtain ⟨x, hx⟩ : ∃ x, l[k]? = some x := ⟨_, List.getElem?_eq_getElem hkl⟩
      obtain ⟨b2, off2, rfl, hb2l, hc2⟩ := HRD.out k x hx
      have HRA := Lib.hid (show wr.rangeAt b2 (off2 + k * 21) (entE x) from fun j v hv => (HB.out.cell (p := ⟨b2, off2 + k * 21 + j, none⟩) hb2l).trans (hc2 j v hv))
      obtain ⟨M, hM⟩ : ∃ M, (l.take k).map cut20 = M := ⟨_, rfl⟩
      have HM := Lib.hid (show (l.take (k + 1)).map cut20 = M ++ [cut20 x] by rw [List.take_add_one, hx, ← hM]; simp)
      have HML := Lib.hid (show M.length = k by rw [← hM]; simp; omega)
      have hxs := HSC.out x (List.mem_of_getElem? hx)
      obtain ⟨m, hm⟩ : ∃ m : Nat, min x.sc.size 20 = m := ⟨_, rfl⟩
      have hm1 : m ≤ x.sc.size := by omega
      have hm2 : min (x.sc.size : Int) 20 = (m : Nat) := by omega
      obtain ⟨q, hq⟩ : ∃ q, x.sc.extract 0 m = q := ⟨_, rfl⟩
      have HCU := Lib.hid (show entE (cut20 x) = (entE x).set 20 (.string q) by unfold cut20; rw [hm, hq]; rfl)
      have HQ := Lib.hid hq
      rw [hM] at HO ⊢
      clear hc2 hx hM hm hq
      obtain ⟨W6, hW6⟩ : ∃ y, wr.alloc (.cells (entE x).toArray 40) = y := ⟨_, rfl⟩
      have HB6 := Lib.hid (show Below wr.heap.size wr W6 by rw [← hW6]; exact cur_new _ _)
      have HX6 := Lib.hid (show Blk W6 wr.heap.size 40 (entE x) by rw [← hW6]; exact Blk.new wr _ _)
      have S6 := Lib.hid hW6
      have e20 : W6.cell? ⟨wr.heap.size, 20, none⟩ = some (.string x.sc) := by rw [HX6.out.cell]; rfl
      have f20 : W6.frozen? ⟨wr.heap.size, 20, none⟩ = false := HX6.out.frozen 20
      clear hW6
      go_upto_region 6 with (first | (refine wpList_load_mid rfl 40 _ rfl b2 (off2 + k * 21) (by rfl) (entE x) _ HRA.out (by rfl) (by rfl) ent_info ?_) | (refine wpList_storeNew rfl _ _ 40 rfl _ (entE x).toArray ent_info (by rfl) (by rfl) rfl (ent_one _) ?_; rw [S6.out]))
      rw [HQ.out]
      have HX8 := Lib.hid (show Blk (W6.setCell ⟨wr.heap.size, 20, none⟩ (.string q)) wr.heap.size 40 (entE (cut20 x)) by rw [HCU.out]; exact HX6.out.set 20 _)
      have HB8 := Lib.hid (show Below wr.heap.size wr (W6.setCell ⟨wr.heap.size, 20, none⟩ (.string q)) from below_set HB6.out (Nat.le_refl _) _ _)
      generalize W6.setCell ⟨wr.heap.size, 20, none⟩ (.string q) = W8 at HX8 HB8 ⊢
      refine wp_region_lit ?_
      (refine wpList_step (fun K hK => ?_); go_simp; refine hK _ _ ?_; clear hK K)
      refine wpList_loadC rfl _ 40 rfl wr.heap.size 40 (entE (cut20 x)) _ (by rfl) (by rfl) (by rfl) (by rfl) HX8.out ?_
      refine wpList_buildE Tryz.enElem rfl 1 _ rfl [cut20 x] rfl (by decide) (by decide) (by rfl) ?_
      rw [show [cut20 x].flatMap entE = entE (cut20 x) from List.append_nil _]
      obtain ⟨W7, hW7⟩ : ∃ y, W8.alloc (.cells (entE (cut20 x)).toArray 40) = y := ⟨_, rfl⟩
      have hb7 : Below W8.heap.size W8 W7 := by rw [← hW7]; exact cur_new _ _
      have hk7 : W7.heap[W8.heap.size]? = some (.cells (entE (cut20 x)).toArray 40 (0, 0)) := by rw [← hW7]; exact heap_alloc_new _ _
      rw [hW7]
      clear hW7
      refine wpList_app1 Tryz.enElem W7 rfl (.tmp 24) (.tmp 26) rfl w.heap.size A c M (by rfl) (own_below (own_below HO.out HB8.out (Nat.le_refl _)) hb7 (Nat.le_refl _)) (cut20 x) W8.heap.size 1 (by rfl) hk7 (by have := HML.out; unfold maxLen; omega) (by have := HML.out; omega) ((cur_step1 (cur_step1 HB.out HB8.out) hb7).size) ?_
      intro g2 cap w8 ha
      have hb8 := app1_end HB.out (own_base HO.out) (cur_step1 HB8.out hb7) ha
      clear hk7 hb7
      have HB9 := Lib.hid hb8.1
      have HO9 := Lib.hid hb8.2
      clear ha hb8
      go_wp2_with (fail)
      refine ⟨⟨k + 1, some ⟨g2, 0, none⟩, cap, by omega, rfl, by rw [HM.out, List.length_append]; rfl, ?_, Nat.le_refl _, HB9.out, HB9.out.size⟩, by show l.length - (k + 1) < l.length - k; omega⟩
      rw [HM.out]
      have := HO9.out
      rw [List.length_append] at this
      exact this
    · have HKN := Lib.hid (show k = l.length by omega)
      go_wp2_with (fail)
      go_ret
      refine ⟨⟨_, rfl, ?_⟩, HB.out⟩
      rw [HF.out, show l.map cut20 = (l.take k).map cut20 from by rw [show l.take k = l from by rw [HKN.out]; exact List.take_length]]
      exact HO.out
end

section
/-! Chapter 58: two entries compared. -/
open Go.RowKit
set_option maxRecDepth 100000
set_option maxHeartbeats 4000000
theorem ent_part (d : Ent) (w : World) : (part 38 (entE d).toArray 1).run Tryz.prog w = .ok (.agg (evE d.ev).toArray) w := by
  simp [part, entE, evE, delE, Tryz.isAgg38]
theorem ent_eqf (n : Nat) (d d' : Ent) (w : World) : (Op.equalIn (n + 4) 40 (.agg (entE d).toArray) (.agg (entE d').toArray)).run Tryz.prog w = .ok (decide (d = d')) w := by
  rw [run_equalIn_agg _ _ _ _ _ (by kernel_rfl) (by kernel_rfl)]
  unfold Program.fieldsOf
  simp only [Tryz.underlying40]
  have h : decide (d = d') = ((d.id == d'.id) && ((decide (d.ev = d'.ev)) && ((d.sc.toList == d'.sc.toList) && true))) := by
    obtain ⟨a1, a2, a3⟩ := d
    obtain ⟨b1, b2, b3⟩ := d'
    rw [Bool.eq_iff_iff]
    rw [← beq_toListBytes]
    have hb : (a3 == b3) = true ↔ a3 = b3 := by
      rw [beq_toListBytes]
      simp only [beq_iff_eq]
      refine ⟨fun h => ?_, fun h => by rw [h]⟩
      rw [ByteArray.toList_eq, ByteArray.toList_eq] at h
      exact ByteArray.ext (Array.toList_inj.1 h)
    simp only [Bool.and_eq_true, hb, Ent.mk.injEq, beq_iff_eq, decide_eq_true_eq, and_true]
  rw [h]
  refine eqf_and (by decide) (by simp [entE, evE, delE, Tryz.isAgg2]; rfl) (by simp [entE, evE, delE, Tryz.isAgg2]; rfl) (run_equalIn_int _ _ _ _ _ _ _ Tryz.underlying2) ?_
  refine eqf_and (by decide) (a := .agg (evE d.ev).toArray) (b := .agg (evE d'.ev).toArray) (ent_part d w) (ent_part d' w) (ev_eqf n d.ev d'.ev w) ?_
  refine eqf_and (by decide) (by simp [entE, evE, delE, Tryz.isAgg9]; rfl) (by simp [entE, evE, delE, Tryz.isAgg9]; rfl) (run_equalIn_string _ _ _ _ _ Tryz.underlying9) ?_
  exact eqf_nil
theorem ent_eql (d d' : Ent) (w : World) : (binOp .eql 40 (.agg (entE d).toArray) (.agg (entE d').toArray)).run Tryz.prog w = .ok (.bool (decide (d = d'))) w := by
  rw [run_eql_struct, ent_eqf]
  rfl
theorem ent_neq (d d' : Ent) (w : World) : (binOp .neq 40 (.agg (entE d).toArray) (.agg (entE d').toArray)).run Tryz.prog w = .ok (.bool (!decide (d = d'))) w := by
  rw [run_neq_struct, ent_eqf]
  rfl
end
end Go.Proofs.YtdbiihfoafoljaaGreatDoor
