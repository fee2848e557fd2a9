/-
  Chapter 49: the law FixturesDays: the walk.
-/
import Derived.Test.YthoocjcbpjdjhaaAwake49
import Derived.Test.YthoocjcbpjdjhaaChk49
import Derived.Test.YthoocjcbpjdjhaaPlain49
namespace Go.Proofs.Ythoocjcbpjdjhaa
open Go.RowKit

def LeI (W : World) (k : Nat) (i : Value) (wr : World) : Prop := ∃ j : Nat, j ≤ k ∧ i = .int .i64 j ∧ Below W.heap.size W wr

set_option maxRecDepth 100000 in
set_option maxHeartbeats 4000000 in
theorem law_days (A G : Option Addr) (c gc : Nat) (l : List Fx) (x y : Int) (gr : List Int) (w : World) (hl : l.length ≤ 9223372036854775807) (hgl : gr.length ≤ 9223372036854775807)
    (hr : Rd fxE 3 w w.heap.size A l) (hg : Rd inE 1 w w.heap.size G gr) :
    Calls Try.prog 5 #[.slice A l.length c, .agg #[.int .i64 x, .int .i64 y, .slice G gr.length gc]] w fun e w' => e = .returned (.bool true) ∧ Below w.heap.size w w' := by
  go_enter Try.func5, Try.ntmps5
  go_wp2_with fail
  refine (awake_any _).mono ?_
  rintro e w1 ⟨rfl, hb1⟩
  have K1 : Keep w w1 [(w.heap.size, 0, .int .i64 x), (w.heap.size, 1, .int .i64 y), (w.heap.size, 2, .slice G gr.length gc)] := Keep.to (Keep.start (cur_new w _) (by simp)) hb1
  have HK1 := Lib.hid K1
  have s0 := K1.get (b := w.heap.size) (o := 0) (v := .int .i64 x) (by simp)
  have s1 := K1.get (b := w.heap.size) (o := 1) (v := .int .i64 y) (by simp)
  have s2 := K1.get (b := w.heap.size) (o := 2) (v := .slice G gr.length gc) (by simp)
  have hbe := K1.1
  clear hb1 K1
  by_cases h1 : 120 < l.length
  · go_wp2
    go_ret
    exact ⟨rfl, hbe⟩
  by_cases h2 : 50 < gr.length
  · go_wp2
    go_ret
    exact ⟨rfl, hbe⟩
  go_wp2_with fail
  refine (place_f A G c gc l x y gr w1 hl hgl (hr.to hbe) (hg.to hbe)).mono ?_
  rintro e w2 ⟨v, rfl, hown, hb2⟩
  have K2 := HK1.out.to hb2
  have HK2 := Lib.hid K2
  clear s0 s1 s2 hbe
  by_cases he : (placeAll l x y gr).2 = 0
  · obtain ⟨out, hout⟩ : ∃ out, out = (placeAll l x y gr).1 := ⟨_, rfl⟩
    have hall : placeAll l x y gr = (out, 0) := by rw [hout, ← he]
    obtain ⟨d1, d2, d3⟩ := days_law hall
    rw [hall] at hown ⊢
    simp only [] at hown ⊢
    have hcap : ∃ A c, v = .slice A out.length c ∧ out.length ≤ c := by
      obtain ⟨A2, c2, rfl, _⟩ := hown.rd pfE_len
      exact ⟨A2, c2, rfl, own_cap hown⟩
    obtain ⟨A2, c2, rfl, hrd, hbase⟩ := hown.rd pfE_len
    obtain ⟨A3, c3, hv, hc3⟩ := hcap
    injection hv with hv1 hv2 hv3
    subst hv1 hv3
    have HR := Lib.hid hrd
    have H3 := Lib.hid d3
    have HL := Lib.hid d1
    have hol : out.length ≤ 120 := by omega
    have hdd : ∀ p ∈ out, -1000 ≤ p.d ∧ p.d ≤ 1000000 := by
      intro p hp
      obtain ⟨k, hk, he⟩ := List.getElem_of_mem hp
      have hf := (d3 k p (by rw [List.getElem?_eq_getElem hk, he])).2
      have h5 := hf.lo
      have h6 := hf.hi
      have h7 : 0 ≤ x := by
        unfold placeAll at hall
        split at hall
        · rename_i h8; exact (season_ok h8).2.2.1
        · rename_i h8; injection hall with _ h9; exact absurd h9 h8
      omega
    have hy : 0 ≤ y ∧ y ≤ 400 ∧ 0 ≤ x := by
      unfold placeAll at hall
      split at hall
      · rename_i h8; have := season_ok h8; omega
      · rename_i h8; injection hall with _ h9; exact absurd h9 h8
    have HDD := Lib.hid hdd
    have HD2 := Lib.hid d2
    have s0 := K2.get (b := w.heap.size) (o := 0) (v := .int .i64 x) (by simp)
    have s1 := K2.get (b := w.heap.size) (o := 1) (v := .int .i64 y) (by simp)
    have s2 := K2.get (b := w.heap.size) (o := 2) (v := .slice G gr.length gc) (by simp)
    clear d1 d2 d3 hown hb2 K2 hrd hbase hout hall he hv2 hdd
    go_wp2_with fail
    refine (chk_f A2 G c2 gc out x y gr w2 (by omega) hc3 hgl HR.out (hg.to HK2.out.1) HDD.out).mono ?_
    rintro e w3 ⟨rfl, hb3⟩
    have HK3 := Lib.hid (HK2.out.to hb3)
    have HR3 := Lib.hid (HR.out.to hb3)
    rw [HD2.out]
    clear hb3 s0 s1 s2
    have e3 : ((out.length : Int) != (l.length : Int)) = false := by have := HL.out; simp; omega
    go_wp2
    go_loopw [57] (LeI w3 out.length) (fun i _ => out.length - (intOf i).toNat)
    case atStart => exact ⟨0, Nat.zero_le _, rfl, Below.refl _ _⟩
    case round =>
      obtain ⟨k, hk, rfl, hb4⟩ := hrel
      have K4 := HK3.out.to hb4
      have HB4 := Lib.hid hb4
      by_cases hlt : k < out.length
      · obtain ⟨p, hp⟩ : ∃ p, out[k]? = some p := ⟨_, List.getElem?_eq_getElem hlt⟩
        obtain ⟨hlp, hfit⟩ := H3.out k p hp
        obtain ⟨b, off, rfl, hbb, c0, c1, c2', c3', c4⟩ := rdPf HR3.out hb4 hp
        obtain ⟨lb, loff, rfl, hlb, l0, l1, l2⟩ := rdFx hr K4.1 hlp
        have h5 := hfit.lo
        have h6 := hfit.hi
        have HFIT := Lib.hid hfit
        obtain ⟨⟨pr, ph, pa⟩, pd, pg⟩ := p
        have HP := Lib.hid hp
        simp only [] at h5 h6 l0 l1 l2 c0 c1 c2' c3' c4
        have t0 := K4.get (b := w.heap.size) (o := 0) (v := .int .i64 x) (by simp)
        have t1 := K4.get (b := w.heap.size) (o := 1) (v := .int .i64 y) (by simp)
        have z0 := K4.lt (b := w.heap.size) (o := 1) (v := .int .i64 y) (by simp)
        have zb : lb < wr.heap.size := by omega
        have hn := neqFx pr ph pa pr ph pa
        simp only [decide_true, Bool.not_true] at hn
        have hgd := guardFx
        have hlk : k < l.length := by have := HL.out; omega
        clear hp hlp hfit K4 hb4
        go_wp2_with fail
        go_quiet (fail)
        have K5 : Keep w ((wr.alloc (.cells #[.int .i64 pr, .int .i64 ph, .int .i64 pa, .int .i64 pd, .int .i64 pg] 39)).drewN nq) ([(wr.heap.size, 1, .int .i64 ph), (wr.heap.size, 2, .int .i64 pa), (wr.heap.size, 3, .int .i64 pd), (wr.heap.size, 4, .int .i64 pg)] ++ [(w.heap.size, 0, .int .i64 x), (w.heap.size, 1, .int .i64 y), (w.heap.size, 2, .slice G gr.length gc)]) :=
          (Keep.more ((HK3.out.to HB4.out).to (cur_new wr _)) (by simp)).to (cur_drew _ nq)
        have HK5 := Lib.hid K5
        have HR5 := Lib.hid (HR3.out.to (cur_step1 HB4.out (cur_step1 (cur_new wr (.cells #[.int .i64 pr, .int .i64 ph, .int .i64 pa, .int .i64 pd, .int .i64 pg] 39)) (cur_drew _ nq))))
        have hkc : k ≤ c2 := by omega
        clear K5
        obtain ⟨wo, rfl⟩ : ∃ wo : World, wo = wr := ⟨_, rfl⟩
        go_wp2
        go_loopw [80] (LeI ((wo.alloc (.cells #[.int .i64 pr, .int .i64 ph, .int .i64 pa, .int .i64 pd, .int .i64 pg] 39)).drewN nq) k) (fun i _ => k - (intOf i).toNat)
        case atStart => exact ⟨0, Nat.zero_le _, rfl, Below.refl _ _⟩
        case round =>
          obtain ⟨j, hj, rfl, hb6⟩ := hrel
          have K6 := HK5.out.to hb6
          have HB6 := Lib.hid hb6
          by_cases hjk : j < k
          · obtain ⟨q, hq⟩ : ∃ q, out[j]? = some q := ⟨_, List.getElem?_eq_getElem (by omega)⟩
            obtain ⟨b', off', e', _, u0, u1, u2, u3, u4⟩ := rdPf HR5.out hb6 hq
            injection e' with e'
            injection e' with ee1 ee2 _
            subst ee1 ee2
            have hqf := (H3.out j q hq).2
            have h7 := hqf.lo
            have h8 := hqf.hi
            have hqm : q ∈ out.take k := List.mem_of_getElem? (i := j) (by rw [List.getElem?_take, if_pos hjk]; exact hq)
            have hrest := HFIT.out.rest q hqm
            have hfree := HFIT.out.free
            have hnt : ¬ (q.g = pg ∧ q.d = pd) := by
              intro ⟨h9, h10⟩
              have : takenL (out.take k) pg pd = true := List.any_eq_true.2 ⟨q, hqm, by simp [h9, h10]⟩
              rw [this] at hfree
              cases hfree
            obtain ⟨⟨qr, qh, qa⟩, qd, qg⟩ := q
            simp only [playsL] at hrest
            simp only [] at h7 h8 hnt
            have HRE := Lib.hid hrest
            have HNT := Lib.hid hnt
            have g1 := K6.get (b := wo.heap.size) (o := 1) (v := .int .i64 ph) (by simp)
            have g2 := K6.get (b := wo.heap.size) (o := 2) (v := .int .i64 pa) (by simp)
            have g3 := K6.get (b := wo.heap.size) (o := 3) (v := .int .i64 pd) (by simp)
            have g4 := K6.get (b := wo.heap.size) (o := 4) (v := .int .i64 pg) (by simp)
            have g5 := K6.get (b := w.heap.size) (o := 1) (v := .int .i64 y) (by simp)
            have y1 := K6.lt (b := wo.heap.size) (o := 4) (v := .int .i64 pg) (by simp)
            have y2 := K6.lt (b := w.heap.size) (o := 1) (v := .int .i64 y) (by simp)
            have hjl : j < out.length := by omega
            have hgd1 : (pg == qg) = false ∨ ((pg == qg) = true ∧ (pd == qd) = false) := by
              by_cases h9 : pg = qg
              · exact .inr ⟨by simpa using h9, by simp; intro h10; exact hnt ⟨h9.symm, h10.symm⟩⟩
              · exact .inl (by simpa using h9)
            clear hq hqf hqm hrest hfree hnt K6 hb6 c0 c1 c2' c3' c4 l0 l1 l2 hn t0 t1
            have hways : ((ph == qh) = true ∧ y < pd - qd) ∨ ((ph == qh) = false ∧ (ph == qa) = true ∧ y < pd - qd) ∨ ((ph == qh) = false ∧ (ph == qa) = false ∧ (pa == qh) = true ∧ y < pd - qd) ∨
                ((ph == qh) = false ∧ (ph == qa) = false ∧ (pa == qh) = false ∧ (pa == qa) = true ∧ y < pd - qd) ∨ ((ph == qh) = false ∧ (ph == qa) = false ∧ (pa == qh) = false ∧ (pa == qa) = false) := by
              have hrr := HRE.out
              rw [Bool.beq_comm (a := qh) (b := ph), Bool.beq_comm (a := qa) (b := ph), Bool.beq_comm (a := qh) (b := pa), Bool.beq_comm (a := qa) (b := pa)] at hrr
              clear HRE
              cases h1 : (ph == qh) <;> cases h2 : (ph == qa) <;> cases h3 : (pa == qh) <;> cases h4 : (pa == qa) <;> simp [h1, h2, h3, h4] at hrr ⊢ <;> omega
            rcases hgd1 with e1 | ⟨e1, e2⟩
            all_goals
              rcases hways with ⟨n1, hcl⟩ | ⟨n1, n2, hcl⟩ | ⟨n1, n2, n3, hcl⟩ | ⟨n1, n2, n3, n4, hcl⟩ | ⟨n1, n2, n3, n4⟩
              all_goals
                go_wp2
                go_roundw
                case rel => exact ⟨j + 1, hjk, by simp, cur_step1 HB6.out (cur_new _ _)⟩
                case measure => simp [intOf]; omega
          · clear K6 hb6
            go_wp2
            go_roundw
            case rel => exact ⟨k + 1, hlt, by simp, cur_step1 HB4.out (cur_step1 (cur_step1 (cur_new wo _) (cur_drew _ nq)) HB6.out)⟩
            case measure => simp [intOf]; omega
      · have hbe := K4.1
        go_wp2
        go_ret
        exact ⟨rfl, hbe⟩
  · have he2 : (placeAll l x y gr).1 = [] := place_err he
    have e4 : ((placeAll l x y gr).2 != 0) = true := by simpa using he
    rw [he2] at hown
    have HE := Lib.hid he
    have hbe := K2.1
    obtain ⟨A2, c2, rfl, hrd, hbase⟩ := hown.rd pfE_len
    clear he he2 hown hb2 K2 hrd hbase
    go_wp2
    go_ret
    exact ⟨rfl, hbe⟩
end Go.Proofs.Ythoocjcbpjdjhaa
