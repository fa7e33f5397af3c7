/- The contracts of strings.Repeat and of the Builder's functions off the library's shelf, laid at this program in plain words (written by the kit's lay-shelf and lay-plain; cut down by a program of mine). -/
import Derived.Shelf.Strings.Repeat
import Derived.Shelf.Strings.BuilderK
import Derived.Test.YtjbhhgecdcgpeaaProg
namespace Go.Proofs
open Go.Shelf
def Try.lays105_ren : Go.Shelf.Ren := ⟨fun | 167 => 64 | 105 => 61 | 212 => 86 | 99 => 87 | 165 => 88 | 166 => 49 | 170 => 50 | 169 => 51 | 263 => 94 | 264 => 95 | 206 => 96 | 240 => 79 | 241 => 97 | 276 => 93 | 277 => 98 | n => n, fun | 9 => 9 | 3 => 3 | 4 => 4 | 20 => 20 | 0 => 0 | 46 => 132 | 109 => 133 | 5 => 5 | 72 => 80 | 76 => 86 | 51 => 142 | 146 => 143 | 53 => 145 | 148 => 146 | 70 => 78 | 37 => 76 | 75 => 85 | 127 => 128 | 164 => 140 | 80 => 89 | n => n, fun | n => n⟩
theorem Try.lays105 : Go.Proofs.Lays.n105 Try.prog Try.lays105_ren := {
  mixed := by kernel_rfl
  f99 := Try.func87.trans (congrArg some (by kernel_rfl))
  f105 := Try.func61.trans (congrArg some (by kernel_rfl))
  f165 := Try.func88.trans (congrArg some (by kernel_rfl))
  f166 := Try.func49.trans (congrArg some (by kernel_rfl))
  f169 := Try.func51.trans (congrArg some (by kernel_rfl))
  f170 := Try.func50.trans (congrArg some (by kernel_rfl))
  f206 := Try.func96.trans (congrArg some (by kernel_rfl))
  f212 := Try.func86.trans (congrArg some (by kernel_rfl))
  f240 := Try.func79.trans (congrArg some (by kernel_rfl))
  f241 := Try.func97.trans (congrArg some (by kernel_rfl))
  f263 := Try.func94.trans (congrArg some (by kernel_rfl))
  f264 := Try.func95.trans (congrArg some (by kernel_rfl))
  f276 := Try.func93.trans (congrArg some (by kernel_rfl))
  f277 := Try.func98.trans (congrArg some (by kernel_rfl))
  t0 := Try.underlying0
  a0 := Try.isAgg0
  z0 := Try.sizeOf0
  v0 := Try.zeroValue0
  t3 := Try.underlying3
  a3 := Try.isAgg3
  z3 := Try.sizeOf3
  v3 := Try.zeroValue3
  t4 := Try.underlying4
  a4 := Try.isAgg4
  z4 := Try.sizeOf4
  v4 := Try.zeroValue4
  t5 := Try.underlying5
  a5 := Try.isAgg5
  z5 := Try.sizeOf5
  v5 := Try.zeroValue5
  t9 := Try.underlying9
  a9 := Try.isAgg9
  z9 := Try.sizeOf9
  v9 := Try.zeroValue9
  t20 := Try.underlying20
  a20 := Try.isAgg20
  z20 := Try.sizeOf20
  v20 := Try.zeroValue20
  t37 := Try.underlying76
  a37 := Try.isAgg76
  z37 := Try.sizeOf76
  v37 := Try.zeroValue76
  t46 := Try.underlying132
  a46 := Try.isAgg132
  z46 := Try.sizeOf132
  v46 := Try.zeroValue132
  t51 := Try.underlying142
  a51 := Try.isAgg142
  z51 := Try.sizeOf142
  v51 := Try.zeroValue142
  t53 := Try.underlying145
  a53 := Try.isAgg145
  z53 := Try.sizeOf145
  v53 := Try.zeroValue145
  t70 := Try.underlying78
  a70 := Try.isAgg78
  z70 := Try.sizeOf78
  v70 := Try.zeroValue78
  t72 := Try.underlying80
  a72 := Try.isAgg80
  z72 := Try.sizeOf80
  v72 := Try.zeroValue80
  t75 := Try.underlying85
  a75 := Try.isAgg85
  z75 := Try.sizeOf85
  v75 := Try.zeroValue85
  t76 := Try.underlying86
  a76 := Try.isAgg86
  z76 := Try.sizeOf86
  v76 := Try.zeroValue86
  t109 := Try.underlying133
  a109 := Try.isAgg133
  z109 := Try.sizeOf133
  v109 := Try.zeroValue133
  t127 := Try.underlying128
  a127 := Try.isAgg128
  z127 := Try.sizeOf128
  v127 := Try.zeroValue128
  t146 := Try.underlying143
  a146 := Try.isAgg143
  z146 := Try.sizeOf143
  v146 := Try.zeroValue143
  t148 := Try.underlying146
  a148 := Try.isAgg146
  z148 := Try.sizeOf146
  v148 := Try.zeroValue146
  t164 := Try.underlying140
  a164 := Try.isAgg140
  z164 := Try.sizeOf140
  v164 := Try.zeroValue140 }
theorem Try.Builder_Extra_105 : Builder.Extra Try.prog Try.lays105_ren := {
  sizeBuilder := by kernel_rfl
  liesBuilder := by kernel_rfl
  t5 := Try.underlying5
  a5 := Try.isAgg5
  z5 := Try.sizeOf5
  v5 := Try.zeroValue5
  infoByte := by kernel_rfl
  cellsByte := by kernel_rfl
  sizeByte := by kernel_rfl
  neB5 := by decide }
theorem Try.lays167 : Go.Proofs.Lays.n167 Try.prog Try.lays105_ren := {
  mixed := by kernel_rfl
  f167 := Try.func64.trans (congrArg some (by kernel_rfl))
  f240 := Try.func79.trans (congrArg some (by kernel_rfl))
  f276 := Try.func93.trans (congrArg some (by kernel_rfl))
  t0 := Try.underlying0
  a0 := Try.isAgg0
  z0 := Try.sizeOf0
  v0 := Try.zeroValue0
  t4 := Try.underlying4
  a4 := Try.isAgg4
  z4 := Try.sizeOf4
  v4 := Try.zeroValue4
  t5 := Try.underlying5
  a5 := Try.isAgg5
  z5 := Try.sizeOf5
  v5 := Try.zeroValue5
  t9 := Try.underlying9
  a9 := Try.isAgg9
  z9 := Try.sizeOf9
  v9 := Try.zeroValue9
  t20 := Try.underlying20
  a20 := Try.isAgg20
  z20 := Try.sizeOf20
  v20 := Try.zeroValue20
  t37 := Try.underlying76
  a37 := Try.isAgg76
  z37 := Try.sizeOf76
  v37 := Try.zeroValue76
  t70 := Try.underlying78
  a70 := Try.isAgg78
  z70 := Try.sizeOf78
  v70 := Try.zeroValue78
  t72 := Try.underlying80
  a72 := Try.isAgg80
  z72 := Try.sizeOf80
  v72 := Try.zeroValue80
  t75 := Try.underlying85
  a75 := Try.isAgg85
  z75 := Try.sizeOf85
  v75 := Try.zeroValue85
  t164 := Try.underlying140
  a164 := Try.isAgg140
  z164 := Try.sizeOf140
  v164 := Try.zeroValue140 }
open Go.RowKit in
theorem Try.Builder_WriteByte (B b : Nat) (bs : List Value) (c : Int) (w : World) (h : Lib.IsBuilderF 80 5 B b bs w) (hlen : bs.length + 1 ≤ 140737488355328) (hBw : B ≤ w.heap.size) :
    Calls Try.prog 64 #[.pointer (some ⟨b, 0, none⟩), .int .u8 c] w fun e w' => e = .returned .nilIface ∧ (Lib.BuilderAtF 80 5 B b (.pointer (some ⟨b, 0, none⟩)) (bs ++ [.int .u8 c]) w' ∧ Below B w w' ∧ Lib.OthersKept 5 (some b) w w') := Any.Builder_WriteByte_k Try.lays167 Try.Builder_Extra_105 B b bs c w h hlen hBw
open Go.RowKit in
theorem Try.Builder_WriteString (B b : Nat) (bs : List Value) (s : ByteArray) (w : World) (h : Lib.IsBuilderF 80 5 B b bs w) (hlen : bs.length + s.size ≤ 140737488355328) (hBw : B ≤ w.heap.size) :
    Calls Try.prog 49 #[.pointer (some ⟨b, 0, none⟩), .string s] w fun e w' => e = .returned (.tuple #[.int .i64 s.size, .nilIface]) ∧ (Lib.BuilderAtF 80 5 B b (.pointer (some ⟨b, 0, none⟩)) (bs ++ Lib.strCells s) w' ∧ Below B w w' ∧ Lib.OthersKept 5 (some b) w w') := Any.Builder_WriteString_k { Try.lays105 with } Try.Builder_Extra_105 B b bs s w h hlen hBw
open Go.RowKit in
theorem Try.Builder_String_any (B b : Nat) (l : List UInt8) (w : World) (h : Lib.IsBuilderF 80 5 B b (Lib.byteCells l) w) (hBw : B ≤ w.heap.size) :
    Calls Try.prog 51 #[.pointer (some ⟨b, 0, none⟩)] w fun e w' => e = .returned (.string ⟨l.toArray⟩) ∧ (Lib.IsBuilderF 80 5 B b (Lib.byteCells l) w' ∧ Below B w w' ∧ Lib.OthersKept 5 (some b) w w') := Any.Builder_String_any_k { Try.lays105 with } Try.Builder_Extra_105 B b l w h hBw
open Go.RowKit in
theorem Try.Builder_Len (B b : Nat) (bs : List Value) (w : World) (h : Lib.IsBuilderF 80 5 B b bs w) :
    Calls Try.prog 50 #[.pointer (some ⟨b, 0, none⟩)] w fun e w' => e = .returned (.int .i64 bs.length) ∧ w' = w := Any.Builder_Len_f { Try.lays105 with } B b bs w h
open Go.RowKit in
theorem Try.strings_Repeat (s : ByteArray) (c : Nat) (w : World) (hc : c ≤ 9223372036854775807) (hlen : s.size * c ≤ 140737488355328) :
    Calls Try.prog 61 #[.string s, .int .i64 c] w fun e w' => e = .returned (.string ⟨(Lib.repeatL s.data.toList c).toArray⟩) ∧ Below w.heap.size w w' := Any.strings_Repeat Try.lays105 Try.Builder_Extra_105 s c w hc hlen
end Go.Proofs
