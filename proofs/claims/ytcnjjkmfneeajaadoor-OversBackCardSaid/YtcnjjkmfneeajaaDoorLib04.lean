/-
  Chapter 04: what Go's library does here: the shelf's contracts, laid at this program.
-/
import Derived.Test.YtcnjjkmfneeajaaDoorRows
import Derived.WalkKit
import Derived.Shelf.Strconv.Itoa3
import Derived.Shelf.Strconv.ParseIntPublic10
import Derived.Shelf.Strings.Cut
import Derived.Shelf.Strings.Prefix
import Derived.Shelf.Strings.SlTrimAscii
import Derived.Shelf.Lay
import Derived.Ground.NamesProg
namespace Go.Proofs
open Go.Shelf Go.RowKit

set_option maxRecDepth 100000
set_option maxHeartbeats 4000000
shelf_lay Lays.n171 Nm 171 at Tryd as Tryd.laysItoa
shelf_lay LaysM.n171 Nm 171 at Tryd as Tryd.laysItoaM
shelf_lay LaysC.n174 Nm 174 at Tryd as Tryd.laysPI
shelf_lay Lays.n145 Nm 145 at Tryd as Tryd.laysCut
shelf_lay Lays.n101 Nm 101 at Tryd as Tryd.laysTP
shelf_lay Lays.n160 Nm 160 at Tryd as Tryd.laysTrim

theorem Tryd.itoa_small (i : Nat) (hi : i < 100) (w : World) :
    Calls Tryd.prog 29 #[.int .i64 i] w fun e w' => e = .returned (.string ⟨(Lib.decDigits i).toArray⟩) ∧ w = w' :=
  (Any.strconv_Itoa_small Tryd.laysItoa i hi w).mono fun _ _ ⟨h1, h2⟩ => ⟨h1, h2.symm⟩

theorem Tryd.parse_ok (s : ByteArray) (hmax : s.size ≤ 9223372036854775806) (v : Int) (h : Lib.parseIntB 64 s.data.toList = .ok v) (w : World) :
    Calls Tryd.prog 45 #[.string s, .int .i64 10, .int .i64 64] w fun e w' => e = .returned (.tuple #[.int .i64 v, .nilIface]) ∧ Below w.heap.size w w' :=
  (Any.strconv_ParseInt_10_at64_ok Tryd.laysPI s hmax v h w).mono fun _ _ ⟨h1, h2⟩ => ⟨h1, by
    rcases h2 with rfl | ⟨t, rfl⟩
    · exact Below.refl _ _
    · exact Lib.bytesWorld_below _ _ _⟩

theorem Tryd.parse_range (s : ByteArray) (hlim : s.size ≤ 281474976710656) (h : Lib.parseIntB 64 s.data.toList = .range) (ev : Value) (w : World) (hv : w.cell? ⟨3, 0, none⟩ = some ev) (hev : ev = .nilIface ∨ ∃ te pe, ev = .iface te pe) :
    Calls Tryd.prog 45 #[.string s, .int .i64 10, .int .i64 64] w fun e w' => ∃ x te pe, e = .returned (.tuple #[.int .i64 x, .iface te pe]) ∧ Below w.heap.size w w' :=
  (Any.strconv_ParseInt_10_at64_range Tryd.laysPI s hlim h ev w hv hev).mono fun _ _ ⟨_, h1, _, _, h2⟩ => ⟨_, _, _, h1, h2⟩

theorem Tryd.itoa_p (n : Int) (h0 : -9223372036854775808 ≤ n) (h1 : n ≤ 9223372036854775807) (w : World) (htab : Lib.TabIs Tryd.prog w "internal/strconv.uint64pow10" .u64 Lib.pow10Tab) :
    Calls Tryd.prog 29 #[.int .i64 n] w fun e w' => e = .returned (.string ⟨(Lib.itoa n).toArray⟩) ∧ Below w.heap.size w w' :=
  (Any.strconv_Itoa Tryd.laysItoaM n h0 h1 w htab).mono fun _ _ ⟨h1, k, os, h2⟩ => ⟨h1, by
    subst h2
    exact ⟨rfl, rfl, rfl, by show w.heap.size ≤ (w.heap ++ os).size; rw [Array.size_append]; omega, fun j hj => by show (w.heap ++ os)[j]? = w.heap[j]?; exact Array.getElem?_append_left hj⟩⟩

theorem Tryd.cut_p (s sep : ByteArray) (m : Int) (w : World) (hs : s.size < 4294967281) (hm : w.cell? ⟨0, 0, none⟩ = some (.int .i64 m)) :
    Calls Tryd.prog 31 #[.string s, .string sep] w fun e w' => e = .returned (.tuple #[.string ⟨(Lib.cut s.data.toList sep.data.toList).1.toArray⟩, .string ⟨(Lib.cut s.data.toList sep.data.toList).2.1.toArray⟩, .bool (Lib.cut s.data.toList sep.data.toList).2.2]) ∧ Below w.heap.size w w' :=
  (Any.strings_Cut Tryd.laysCut s sep m w hs hm).mono fun _ _ ⟨h1, n, h2⟩ => ⟨h1, by
    subst h2
    exact ⟨rfl, rfl, rfl, Nat.le_refl _, fun _ _ => rfl⟩⟩

theorem Tryd.trimp_p (s p : ByteArray) (w : World) :
    Calls Tryd.prog 54 #[.string s, .string p] w fun e w' => e = .returned (.string ⟨(Lib.trimPrefix s.data.toList p.data.toList).toArray⟩) ∧ w = w' :=
  (Any.strings_TrimPrefix Tryd.laysTP s p w).mono fun _ _ ⟨h1, h2⟩ => ⟨h1, h2.symm⟩

theorem Tryd.trim_p (s cutset : ByteArray) (w : World) (hs : s.size ≤ 9223372036854775807) (hcs : cutset.size < 4294967281)
    (hascii : cutset.data.toList.all (fun b => decide (b.toNat < 128)) = true) :
    Calls Tryd.prog 55 #[.string s, .string cutset] w fun e w' => e = .returned (.string ⟨(Lib.trimS s.data.toList cutset.data.toList).toArray⟩) ∧ Below w.heap.size w w' :=
  Any.strings_Trim_laid Tryd.laysTrim (by kernel_rfl) s cutset w hs hcs (ascii_of_all hascii)
end Go.Proofs
