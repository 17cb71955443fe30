/- strings.Trim and strings.HasPrefix of the library, laid at this translation; a text of digits trims to nothing -/
import Derived.Shelf.Strings.SlTrimAscii
import Derived.Shelf.Strings.Prefix
import Derived.Test.YtfgadmiencgmgaaDoorGA
namespace Go.Proofs
open Go.Shelf
def Tryd.lays160_ren : Go.Shelf.Ren := ⟨fun | 119 => 67 | 120 => 61 | 137 => 39 | 151 => 47 | 152 => 60 | 160 => 11 | 197 => 46 | 217 => 54 | 224 => 68 | 225 => 69 | 227 => 28 | 228 => 45 | 231 => 26 | 232 => 27 | 233 => 29 | 234 => 30 | 235 => 31 | 236 => 32 | 260 => 59 | 266 => 66 | 271 => 48 | n => n, fun | 0 => 0 | 3 => 3 | 4 => 4 | 5 => 5 | 9 => 9 | 21 => 21 | 46 => 87 | 105 => 76 | 116 => 57 | 117 => 58 | 119 => 94 | 124 => 61 | 138 => 96 | 139 => 97 | n => n, fun | 1 => 0 | 3 => 1 | 4 => 2 | n => n⟩
theorem Tryd.lays160 : Go.Proofs.Lays.n160 Tryd.prog Tryd.lays160_ren := {
  mixed := by kernel_rfl
  f119 := Tryd.func67.trans (congrArg some (by kernel_rfl))
  f120 := Tryd.func61.trans (congrArg some (by kernel_rfl))
  f137 := Tryd.func39.trans (congrArg some (by kernel_rfl))
  f151 := Tryd.func47.trans (congrArg some (by kernel_rfl))
  f152 := Tryd.func60.trans (congrArg some (by kernel_rfl))
  f160 := Tryd.func11.trans (congrArg some (by kernel_rfl))
  f197 := Tryd.func46.trans (congrArg some (by kernel_rfl))
  f217 := Tryd.func54.trans (congrArg some (by kernel_rfl))
  f224 := Tryd.func68.trans (congrArg some (by kernel_rfl))
  f225 := Tryd.func69.trans (congrArg some (by kernel_rfl))
  f227 := Tryd.func28.trans (congrArg some (by kernel_rfl))
  f228 := Tryd.func45.trans (congrArg some (by kernel_rfl))
  f231 := Tryd.func26.trans (congrArg some (by kernel_rfl))
  f232 := Tryd.func27.trans (congrArg some (by kernel_rfl))
  f233 := Tryd.func29.trans (congrArg some (by kernel_rfl))
  f234 := Tryd.func30.trans (congrArg some (by kernel_rfl))
  f235 := Tryd.func31.trans (congrArg some (by kernel_rfl))
  f236 := Tryd.func32.trans (congrArg some (by kernel_rfl))
  f260 := Tryd.func59.trans (congrArg some (by kernel_rfl))
  f266 := Tryd.func66.trans (congrArg some (by kernel_rfl))
  f271 := Tryd.func48.trans (congrArg some (by kernel_rfl))
  t0 := Tryd.underlying0
  a0 := Tryd.isAgg0
  z0 := Tryd.sizeOf0
  v0 := Tryd.zeroValue0
  t3 := Tryd.underlying3
  a3 := Tryd.isAgg3
  z3 := Tryd.sizeOf3
  v3 := Tryd.zeroValue3
  t4 := Tryd.underlying4
  a4 := Tryd.isAgg4
  z4 := Tryd.sizeOf4
  v4 := Tryd.zeroValue4
  t5 := Tryd.underlying5
  a5 := Tryd.isAgg5
  z5 := Tryd.sizeOf5
  v5 := Tryd.zeroValue5
  t9 := Tryd.underlying9
  a9 := Tryd.isAgg9
  z9 := Tryd.sizeOf9
  v9 := Tryd.zeroValue9
  t21 := Tryd.underlying21
  a21 := Tryd.isAgg21
  z21 := Tryd.sizeOf21
  v21 := Tryd.zeroValue21
  t46 := Tryd.underlying87
  a46 := Tryd.isAgg87
  z46 := Tryd.sizeOf87
  v46 := Tryd.zeroValue87
  t105 := Tryd.underlying76
  a105 := Tryd.isAgg76
  z105 := Tryd.sizeOf76
  v105 := Tryd.zeroValue76
  t116 := Tryd.underlying57
  a116 := Tryd.isAgg57
  z116 := Tryd.sizeOf57
  t117 := Tryd.underlying58
  a117 := Tryd.isAgg58
  z117 := Tryd.sizeOf58
  v117 := Tryd.zeroValue58
  t119 := Tryd.underlying94
  a119 := Tryd.isAgg94
  z119 := Tryd.sizeOf94
  t124 := Tryd.underlying61
  a124 := Tryd.isAgg61
  z124 := Tryd.sizeOf61
  v124 := Tryd.zeroValue61
  t138 := Tryd.underlying96
  a138 := Tryd.isAgg96
  z138 := Tryd.sizeOf96
  v138 := Tryd.zeroValue96
  t139 := Tryd.underlying97
  a139 := Tryd.isAgg97
  z139 := Tryd.sizeOf97
  v139 := Tryd.zeroValue97
  g3 := by kernel_rfl
  g4 := by kernel_rfl }
def Tryd.lays99_ren : Go.Shelf.Ren := ⟨fun | 99 => 15 | 206 => 37 | n => n, fun | 3 => 3 | 4 => 4 | 9 => 9 | n => n, fun | n => n⟩
theorem Tryd.lays99 : Go.Proofs.Lays.n99 Tryd.prog Tryd.lays99_ren := {
  mixed := by kernel_rfl
  f99 := Tryd.func15.trans (congrArg some (by kernel_rfl))
  f206 := Tryd.func37.trans (congrArg some (by kernel_rfl))
  t3 := Tryd.underlying3
  a3 := Tryd.isAgg3
  z3 := Tryd.sizeOf3
  v3 := Tryd.zeroValue3
  t4 := Tryd.underlying4
  a4 := Tryd.isAgg4
  z4 := Tryd.sizeOf4
  v4 := Tryd.zeroValue4
  t9 := Tryd.underlying9
  a9 := Tryd.isAgg9
  z9 := Tryd.sizeOf9
  v9 := Tryd.zeroValue9 }
namespace XK
def hexl : List UInt8 := [48, 49, 50, 51, 52, 53, 54, 55, 56, 57, 97, 98, 99, 100, 101, 102]
theorem hexl_isD (c : UInt8) : hexl.contains c = MsgPure.isD c := by
  rw [Bool.eq_iff_iff]
  simp only [hexl, MsgPure.isD, List.contains_cons, List.contains_nil, Bool.or_false, Bool.or_eq_true, beq_iff_eq, Bool.and_eq_true, decide_eq_true_eq]
  have h := c.toNat_lt
  have e : ∀ n : Nat, n < 256 → (c = UInt8.ofNat n ↔ c.toNat = n) := fun n hn => by
    rw [← UInt8.toNat_inj, UInt8.toNat_ofNat', Nat.mod_eq_of_lt hn]
  have := e 48; have := e 49; have := e 50; have := e 51; have := e 52; have := e 53; have := e 54; have := e 55; have := e 56; have := e 57
  have := e 97; have := e 98; have := e 99; have := e 100; have := e 101; have := e 102
  simp_all
  omega
theorem dropWhile_nil {α : Type} (p : α → Bool) (l : List α) : l.dropWhile p = [] ↔ ∀ x ∈ l, p x = true := by
  induction l with
  | nil => simp
  | cons x l ih =>
    rw [List.dropWhile_cons]
    by_cases h : p x = true <;> simp [h, ih]
theorem dropWhile_mem {α : Type} (p : α → Bool) (l : List α) : (∀ x ∈ l.dropWhile p, p x = true) ↔ ∀ x ∈ l, p x = true := by
  induction l with
  | nil => simp
  | cons x l ih =>
    rw [List.dropWhile_cons]
    by_cases h : p x = true
    · simp [h, ih]
    · simp [h]
theorem trim_nil (l : List UInt8) : (Lib.trimS l hexl = []) ↔ ∀ c ∈ l, MsgPure.isD c = true := by
  unfold Lib.trimS Lib.trimLeftS Lib.trimRightS
  rw [dropWhile_nil]
  simp only [List.mem_reverse, dropWhile_mem, hexl_isD]
end XK
open Go.RowKit in
theorem Tryd.trim (s : ByteArray) (hs : s.size ≤ 9223372036854775807) (w : World) :
    Calls Tryd.prog 11 #[.string s, .string ⟨#[48, 49, 50, 51, 52, 53, 54, 55, 56, 57, 97, 98, 99, 100, 101, 102]⟩] w fun e w' => e = .returned (.string ⟨(Lib.trimS s.data.toList XK.hexl).toArray⟩) ∧ Below w.heap.size w w' :=
  Any.strings_Trim_laid Tryd.lays160 (by kernel_rfl) s ⟨#[48, 49, 50, 51, 52, 53, 54, 55, 56, 57, 97, 98, 99, 100, 101, 102]⟩ w hs (by decide) (ascii_of_all (by decide))
theorem Tryd.hasPrefix (s p : ByteArray) (w : World) :
    Calls Tryd.prog 15 #[.string s, .string p] w fun e w' => e = .returned (.bool (Lib.hasPrefix s.data.toList p.data.toList)) ∧ w' = w :=
  Any.strings_HasPrefix Tryd.lays99 s p w
end Go.Proofs
