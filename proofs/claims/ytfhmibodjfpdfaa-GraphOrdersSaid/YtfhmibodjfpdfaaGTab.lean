/- The table of this seat's types, by program, and that it is the program's. -/
import Derived.Test.YtfhmibodjfpdfaaAm10
import Derived.Test.YtfhmibodjfpdfaaProg
import Derived.KernelRfl
set_option linter.unusedSimpArgs false
set_option linter.unusedVariables false
namespace Go.Proofs.Ytfhmibodjfpdfaa
open Go Go.Am

def ti1 : TI := ⟨.func #[] #[] false, 1, 8, [.nilf]⟩
theorem ty1 : TyOk Try.prog 1 ti1 := tyOk_of (by kernel_rfl) (z := dV (.nilf)) (by kernel_rfl) rfl rfl rfl (.inr rfl)
def ti2 : TI := ⟨.int .i64, 1, 8, [.int .i64 0]⟩
theorem ty2 : TyOk Try.prog 2 ti2 := tyOk_of (by kernel_rfl) (z := dV (.int .i64 0)) (by kernel_rfl) rfl rfl rfl (.inr rfl)
def ti3 : TI := ⟨.int .i64, 1, 8, [.int .i64 0]⟩
theorem ty3 : TyOk Try.prog 3 ti3 := tyOk_of (by kernel_rfl) (z := dV (.int .i64 0)) (by kernel_rfl) rfl rfl rfl (.inr rfl)
def ti4 : TI := ⟨.bool, 1, 1, [.bool false]⟩
theorem ty4 : TyOk Try.prog 4 ti4 := tyOk_of (by kernel_rfl) (z := dV (.bool false)) (by kernel_rfl) rfl rfl rfl (.inr rfl)
def ti5 : TI := ⟨.int .u8, 1, 1, [.int .u8 0]⟩
theorem ty5 : TyOk Try.prog 5 ti5 := tyOk_of (by kernel_rfl) (z := dV (.int .u8 0)) (by kernel_rfl) rfl rfl rfl (.inr rfl)
def ti6 : TI := ⟨.int .u8, 1, 1, [.int .u8 0]⟩
theorem ty6 : TyOk Try.prog 6 ti6 := tyOk_of (by kernel_rfl) (z := dV (.int .u8 0)) (by kernel_rfl) rfl rfl rfl (.inr rfl)
def ti7 : TI := ⟨.struct #[⟨"x", 2, 0, false, "", "runtime", 0⟩, ⟨"y", 3, 1, false, "", "runtime", 8⟩, ⟨"signed", 4, 2, false, "", "runtime", 16⟩, ⟨"code", 6, 3, false, "", "runtime", 17⟩], 4, 24, [.int .i64 0, .int .i64 0, .bool false, .int .u8 0]⟩
theorem ty7 : TyOk Try.prog 7 ti7 := tyOk_of (by kernel_rfl) (z := .agg #[dV (.int .i64 0), dV (.int .i64 0), dV (.bool false), dV (.int .u8 0)]) (by kernel_rfl) rfl rfl rfl (.inl rfl)
def ti8 : TI := ⟨.struct #[⟨"x", 2, 0, false, "", "runtime", 0⟩, ⟨"y", 3, 1, false, "", "runtime", 8⟩, ⟨"signed", 4, 2, false, "", "runtime", 16⟩, ⟨"code", 6, 3, false, "", "runtime", 17⟩], 4, 24, [.int .i64 0, .int .i64 0, .bool false, .int .u8 0]⟩
theorem ty8 : TyOk Try.prog 8 ti8 := tyOk_of (by kernel_rfl) (z := .agg #[dV (.int .i64 0), dV (.int .i64 0), dV (.bool false), dV (.int .u8 0)]) (by kernel_rfl) rfl rfl rfl (.inl rfl)
def ti9 : TI := ⟨.string, 1, 16, [.str []]⟩
theorem ty9 : TyOk Try.prog 9 ti9 := tyOk_of (by kernel_rfl) (z := dV (.str [])) (by kernel_rfl) rfl rfl rfl (.inr rfl)
def ti10 : TI := ⟨.string, 1, 16, [.str []]⟩
theorem ty10 : TyOk Try.prog 10 ti10 := tyOk_of (by kernel_rfl) (z := dV (.str [])) (by kernel_rfl) rfl rfl rfl (.inr rfl)
def ti11 : TI := ⟨.string, 1, 16, [.str []]⟩
theorem ty11 : TyOk Try.prog 11 ti11 := tyOk_of (by kernel_rfl) (z := dV (.str [])) (by kernel_rfl) rfl rfl rfl (.inr rfl)
def ti12 : TI := ⟨.int .u64, 1, 8, [.int .u64 0]⟩
theorem ty12 : TyOk Try.prog 12 ti12 := tyOk_of (by kernel_rfl) (z := dV (.int .u64 0)) (by kernel_rfl) rfl rfl rfl (.inr rfl)
def ti13 : TI := ⟨.struct #[⟨"msg", 9, 0, false, "", "runtime", 0⟩, ⟨"addr", 12, 1, false, "", "runtime", 16⟩], 2, 24, [.str [], .int .u64 0]⟩
theorem ty13 : TyOk Try.prog 13 ti13 := tyOk_of (by kernel_rfl) (z := .agg #[dV (.str []), dV (.int .u64 0)]) (by kernel_rfl) rfl rfl rfl (.inl rfl)
def ti14 : TI := ⟨.struct #[⟨"msg", 9, 0, false, "", "runtime", 0⟩, ⟨"addr", 12, 1, false, "", "runtime", 16⟩], 2, 24, [.str [], .int .u64 0]⟩
theorem ty14 : TyOk Try.prog 14 ti14 := tyOk_of (by kernel_rfl) (z := .agg #[dV (.str []), dV (.int .u64 0)]) (by kernel_rfl) rfl rfl rfl (.inl rfl)
def ti15 : TI := ⟨.pointer 54, 1, 8, [.nilp]⟩
theorem ty15 : TyOk Try.prog 15 ti15 := tyOk_of (by kernel_rfl) (z := dV (.nilp)) (by kernel_rfl) rfl rfl rfl (.inr rfl)
def ti16 : TI := ⟨.pointer 57, 1, 8, [.nilp]⟩
theorem ty16 : TyOk Try.prog 16 ti16 := tyOk_of (by kernel_rfl) (z := dV (.nilp)) (by kernel_rfl) rfl rfl rfl (.inr rfl)
def ti17 : TI := ⟨.pointer 67, 1, 8, [.nilp]⟩
theorem ty17 : TyOk Try.prog 17 ti17 := tyOk_of (by kernel_rfl) (z := dV (.nilp)) (by kernel_rfl) rfl rfl rfl (.inr rfl)
def ti18 : TI := ⟨.struct #[⟨"typ", 17, 0, false, "", "internal/runtime/maps", 0⟩], 1, 8, [.nilp]⟩
theorem ty18 : TyOk Try.prog 18 ti18 := tyOk_of (by kernel_rfl) (z := .agg #[dV (.nilp)]) (by kernel_rfl) rfl rfl rfl (.inl rfl)
def ti19 : TI := ⟨.struct #[⟨"typ", 17, 0, false, "", "internal/runtime/maps", 0⟩], 1, 8, [.nilp]⟩
theorem ty19 : TyOk Try.prog 19 ti19 := tyOk_of (by kernel_rfl) (z := .agg #[dV (.nilp)]) (by kernel_rfl) rfl rfl rfl (.inl rfl)
def ti20 : TI := ⟨.interface #[], 1, 16, [.nili]⟩
theorem ty20 : TyOk Try.prog 20 ti20 := tyOk_of (by kernel_rfl) (z := dV (.nili)) (by kernel_rfl) rfl rfl rfl (.inr rfl)
def ti21 : TI := ⟨.int .i32, 1, 4, [.int .i32 0]⟩
theorem ty21 : TyOk Try.prog 21 ti21 := tyOk_of (by kernel_rfl) (z := dV (.int .i32 0)) (by kernel_rfl) rfl rfl rfl (.inr rfl)
def ti22 : TI := ⟨.slice 26, 1, 24, [.nsl]⟩
theorem ty22 : TyOk Try.prog 22 ti22 := tyOk_of (by kernel_rfl) (z := dV (.nsl)) (by kernel_rfl) rfl rfl rfl (.inr rfl)
def ti23 : TI := ⟨.func #[] #[4] false, 1, 8, [.nilf]⟩
theorem ty23 : TyOk Try.prog 23 ti23 := tyOk_of (by kernel_rfl) (z := dV (.nilf)) (by kernel_rfl) rfl rfl rfl (.inr rfl)
def ti24 : TI := ⟨.slice 25, 1, 24, [.nsl]⟩
theorem ty24 : TyOk Try.prog 24 ti24 := tyOk_of (by kernel_rfl) (z := dV (.nsl)) (by kernel_rfl) rfl rfl rfl (.inr rfl)
def ti25 : TI := ⟨.slice 3, 1, 24, [.nsl]⟩
theorem ty25 : TyOk Try.prog 25 ti25 := tyOk_of (by kernel_rfl) (z := dV (.nsl)) (by kernel_rfl) rfl rfl rfl (.inr rfl)
def ti26 : TI := ⟨.slice 5, 1, 24, [.nsl]⟩
theorem ty26 : TyOk Try.prog 26 ti26 := tyOk_of (by kernel_rfl) (z := dV (.nsl)) (by kernel_rfl) rfl rfl rfl (.inr rfl)
def ti27 : TI := ⟨.int .i64, 1, 8, [.int .i64 0]⟩
theorem ty27 : TyOk Try.prog 27 ti27 := tyOk_of (by kernel_rfl) (z := dV (.int .i64 0)) (by kernel_rfl) rfl rfl rfl (.inr rfl)
def ti29 : TI := ⟨.func #[24] #[24, 27] false, 1, 8, [.nilf]⟩
theorem ty29 : TyOk Try.prog 29 ti29 := tyOk_of (by kernel_rfl) (z := dV (.nilf)) (by kernel_rfl) rfl rfl rfl (.inr rfl)
def ti30 : TI := ⟨.func #[24] #[25] false, 1, 8, [.nilf]⟩
theorem ty30 : TyOk Try.prog 30 ti30 := tyOk_of (by kernel_rfl) (z := dV (.nilf)) (by kernel_rfl) rfl rfl rfl (.inr rfl)
def ti31 : TI := ⟨.func #[22, 5] #[4] false, 1, 8, [.nilf]⟩
theorem ty31 : TyOk Try.prog 31 ti31 := tyOk_of (by kernel_rfl) (z := dV (.nilf)) (by kernel_rfl) rfl rfl rfl (.inr rfl)
def ti32 : TI := ⟨.func #[24, 3] #[4] false, 1, 8, [.nilf]⟩
theorem ty32 : TyOk Try.prog 32 ti32 := tyOk_of (by kernel_rfl) (z := dV (.nilf)) (by kernel_rfl) rfl rfl rfl (.inr rfl)
def ti33 : TI := ⟨.func #[24, 5, 5] #[4] false, 1, 8, [.nilf]⟩
theorem ty33 : TyOk Try.prog 33 ti33 := tyOk_of (by kernel_rfl) (z := dV (.nilf)) (by kernel_rfl) rfl rfl rfl (.inr rfl)
def ti34 : TI := ⟨.func #[25, 25] #[4] false, 1, 8, [.nilf]⟩
theorem ty34 : TyOk Try.prog 34 ti34 := tyOk_of (by kernel_rfl) (z := dV (.nilf)) (by kernel_rfl) rfl rfl rfl (.inr rfl)
def ti36 : TI := ⟨.func #[24] #[25, 27] false, 1, 8, [.nilf]⟩
theorem ty36 : TyOk Try.prog 36 ti36 := tyOk_of (by kernel_rfl) (z := dV (.nilf)) (by kernel_rfl) rfl rfl rfl (.inr rfl)
def ti37 : TI := ⟨.func #[24] #[4] false, 1, 8, [.nilf]⟩
theorem ty37 : TyOk Try.prog 37 ti37 := tyOk_of (by kernel_rfl) (z := dV (.nilf)) (by kernel_rfl) rfl rfl rfl (.inr rfl)
def ti38 : TI := ⟨.slice 4, 1, 24, [.nsl]⟩
theorem ty38 : TyOk Try.prog 38 ti38 := tyOk_of (by kernel_rfl) (z := dV (.nsl)) (by kernel_rfl) rfl rfl rfl (.inr rfl)
def ti39 : TI := ⟨.func #[24, 25] #[4] false, 1, 8, [.nilf]⟩
theorem ty39 : TyOk Try.prog 39 ti39 := tyOk_of (by kernel_rfl) (z := dV (.nilf)) (by kernel_rfl) rfl rfl rfl (.inr rfl)
def ti40 : TI := ⟨.func #[24, 3] #[25, 27] false, 1, 8, [.nilf]⟩
theorem ty40 : TyOk Try.prog 40 ti40 := tyOk_of (by kernel_rfl) (z := dV (.nilf)) (by kernel_rfl) rfl rfl rfl (.inr rfl)
def ti41 : TI := ⟨.func #[24, 5] #[4] false, 1, 8, [.nilf]⟩
theorem ty41 : TyOk Try.prog 41 ti41 := tyOk_of (by kernel_rfl) (z := dV (.nilf)) (by kernel_rfl) rfl rfl rfl (.inr rfl)
def ti42 : TI := ⟨.func #[25, 43] #[25] false, 1, 8, [.nilf]⟩
theorem ty42 : TyOk Try.prog 42 ti42 := tyOk_of (by kernel_rfl) (z := dV (.nilf)) (by kernel_rfl) rfl rfl rfl (.inr rfl)
def ti43 : TI := ⟨.func #[3] #[25] false, 1, 8, [.nilf]⟩
theorem ty43 : TyOk Try.prog 43 ti43 := tyOk_of (by kernel_rfl) (z := dV (.nilf)) (by kernel_rfl) rfl rfl rfl (.inr rfl)
def ti44 : TI := ⟨.func #[25, 38] #[4] false, 1, 8, [.nilf]⟩
theorem ty44 : TyOk Try.prog 44 ti44 := tyOk_of (by kernel_rfl) (z := dV (.nilf)) (by kernel_rfl) rfl rfl rfl (.inr rfl)
def ti45 : TI := ⟨.func #[25, 3] #[4] false, 1, 8, [.nilf]⟩
theorem ty45 : TyOk Try.prog 45 ti45 := tyOk_of (by kernel_rfl) (z := dV (.nilf)) (by kernel_rfl) rfl rfl rfl (.inr rfl)
def ti46 : TI := ⟨.map 3 3, 1, 8, [.nilm]⟩
theorem ty46 : TyOk Try.prog 46 ti46 := tyOk_of (by kernel_rfl) (z := dV (.nilm)) (by kernel_rfl) rfl rfl rfl (.inr rfl)
def ti47 : TI := ⟨.struct #[⟨"thing", 3, 0, false, "", "seedcorn/graph", 0⟩, ⟨"looked", 3, 1, false, "", "seedcorn/graph", 8⟩], 2, 16, [.int .i64 0, .int .i64 0]⟩
theorem ty47 : TyOk Try.prog 47 ti47 := tyOk_of (by kernel_rfl) (z := .agg #[dV (.int .i64 0), dV (.int .i64 0)]) (by kernel_rfl) rfl rfl rfl (.inl rfl)
def ti48 : TI := ⟨.struct #[⟨"thing", 3, 0, false, "", "seedcorn/graph", 0⟩, ⟨"looked", 3, 1, false, "", "seedcorn/graph", 8⟩], 2, 16, [.int .i64 0, .int .i64 0]⟩
theorem ty48 : TyOk Try.prog 48 ti48 := tyOk_of (by kernel_rfl) (z := .agg #[dV (.int .i64 0), dV (.int .i64 0)]) (by kernel_rfl) rfl rfl rfl (.inl rfl)
def ti49 : TI := ⟨.slice 48, 1, 24, [.nsl]⟩
theorem ty49 : TyOk Try.prog 49 ti49 := tyOk_of (by kernel_rfl) (z := dV (.nsl)) (by kernel_rfl) rfl rfl rfl (.inr rfl)
def ti50 : TI := ⟨.pointer 48, 1, 8, [.nilp]⟩
theorem ty50 : TyOk Try.prog 50 ti50 := tyOk_of (by kernel_rfl) (z := dV (.nilp)) (by kernel_rfl) rfl rfl rfl (.inr rfl)
def ti51 : TI := ⟨.func #[49, 3] #[25] false, 1, 8, [.nilf]⟩
theorem ty51 : TyOk Try.prog 51 ti51 := tyOk_of (by kernel_rfl) (z := dV (.nilf)) (by kernel_rfl) rfl rfl rfl (.inr rfl)
def ti52 : TI := ⟨.func #[] #[9] false, 1, 8, [.nilf]⟩
theorem ty52 : TyOk Try.prog 52 ti52 := tyOk_of (by kernel_rfl) (z := dV (.nilf)) (by kernel_rfl) rfl rfl rfl (.inr rfl)
def ti53 : TI := ⟨.struct #[⟨"_interface", 17, 0, false, "", "runtime", 0⟩, ⟨"concrete", 17, 1, false, "", "runtime", 8⟩, ⟨"asserted", 17, 2, false, "", "runtime", 16⟩, ⟨"missingMethod", 9, 3, false, "", "runtime", 24⟩], 4, 40, [.nilp, .nilp, .nilp, .str []]⟩
theorem ty53 : TyOk Try.prog 53 ti53 := tyOk_of (by kernel_rfl) (z := .agg #[dV (.nilp), dV (.nilp), dV (.nilp), dV (.str [])]) (by kernel_rfl) rfl rfl rfl (.inl rfl)
def ti54 : TI := ⟨.struct #[⟨"_interface", 17, 0, false, "", "runtime", 0⟩, ⟨"concrete", 17, 1, false, "", "runtime", 8⟩, ⟨"asserted", 17, 2, false, "", "runtime", 16⟩, ⟨"missingMethod", 9, 3, false, "", "runtime", 24⟩], 4, 40, [.nilp, .nilp, .nilp, .str []]⟩
theorem ty54 : TyOk Try.prog 54 ti54 := tyOk_of (by kernel_rfl) (z := .agg #[dV (.nilp), dV (.nilp), dV (.nilp), dV (.str [])]) (by kernel_rfl) rfl rfl rfl (.inl rfl)
def ti55 : TI := ⟨.array 0 16, 0, 0, []⟩
theorem ty55 : TyOk Try.prog 55 ti55 := tyOk_of (by kernel_rfl) (z := .agg #[]) (by kernel_rfl) rfl rfl rfl (.inl rfl)
def ti56 : TI := ⟨.struct #[⟨"_", 55, 0, false, "", "runtime", 0⟩], 0, 0, []⟩
theorem ty56 : TyOk Try.prog 56 ti56 := tyOk_of (by kernel_rfl) (z := .agg #[]) (by kernel_rfl) rfl rfl rfl (.inl rfl)
def ti57 : TI := ⟨.struct #[⟨"_", 55, 0, false, "", "runtime", 0⟩], 0, 0, []⟩
theorem ty57 : TyOk Try.prog 57 ti57 := tyOk_of (by kernel_rfl) (z := .agg #[]) (by kernel_rfl) rfl rfl rfl (.inl rfl)
def ti58 : TI := ⟨.func #[] #[3] false, 1, 8, [.nilf]⟩
theorem ty58 : TyOk Try.prog 58 ti58 := tyOk_of (by kernel_rfl) (z := dV (.nilf)) (by kernel_rfl) rfl rfl rfl (.inr rfl)
def ti59 : TI := ⟨.int .u32, 1, 4, [.int .u32 0]⟩
theorem ty59 : TyOk Try.prog 59 ti59 := tyOk_of (by kernel_rfl) (z := dV (.int .u32 0)) (by kernel_rfl) rfl rfl rfl (.inr rfl)
def ti60 : TI := ⟨.int .u8, 1, 1, [.int .u8 0]⟩
theorem ty60 : TyOk Try.prog 60 ti60 := tyOk_of (by kernel_rfl) (z := dV (.int .u8 0)) (by kernel_rfl) rfl rfl rfl (.inr rfl)
def ti61 : TI := ⟨.int .u8, 1, 1, [.int .u8 0]⟩
theorem ty61 : TyOk Try.prog 61 ti61 := tyOk_of (by kernel_rfl) (z := dV (.int .u8 0)) (by kernel_rfl) rfl rfl rfl (.inr rfl)
def ti62 : TI := ⟨.func #[68, 68] #[4] false, 1, 8, [.nilf]⟩
theorem ty62 : TyOk Try.prog 62 ti62 := tyOk_of (by kernel_rfl) (z := dV (.nilf)) (by kernel_rfl) rfl rfl rfl (.inr rfl)
def ti63 : TI := ⟨.pointer 5, 1, 8, [.nilp]⟩
theorem ty63 : TyOk Try.prog 63 ti63 := tyOk_of (by kernel_rfl) (z := dV (.nilp)) (by kernel_rfl) rfl rfl rfl (.inr rfl)
def ti64 : TI := ⟨.int .i32, 1, 4, [.int .i32 0]⟩
theorem ty64 : TyOk Try.prog 64 ti64 := tyOk_of (by kernel_rfl) (z := dV (.int .i32 0)) (by kernel_rfl) rfl rfl rfl (.inr rfl)
def ti65 : TI := ⟨.int .i32, 1, 4, [.int .i32 0]⟩
theorem ty65 : TyOk Try.prog 65 ti65 := tyOk_of (by kernel_rfl) (z := dV (.int .i32 0)) (by kernel_rfl) rfl rfl rfl (.inr rfl)
def ti66 : TI := ⟨.struct #[⟨"Size_", 12, 0, false, "", "", 0⟩, ⟨"PtrBytes", 12, 1, false, "", "", 8⟩, ⟨"Hash", 59, 2, false, "", "", 16⟩, ⟨"TFlag", 60, 3, false, "", "", 20⟩, ⟨"Align_", 5, 4, false, "", "", 21⟩, ⟨"FieldAlign_", 5, 5, false, "", "", 22⟩, ⟨"Kind_", 61, 6, false, "", "", 23⟩, ⟨"Equal", 62, 7, false, "", "", 24⟩, ⟨"GCData", 63, 8, false, "", "", 32⟩, ⟨"Str", 64, 9, false, "", "", 40⟩, ⟨"PtrToThis", 65, 10, false, "", "", 44⟩], 11, 48, [.int .u64 0, .int .u64 0, .int .u32 0, .int .u8 0, .int .u8 0, .int .u8 0, .int .u8 0, .nilf, .nilp, .int .i32 0, .int .i32 0]⟩
theorem ty66 : TyOk Try.prog 66 ti66 := tyOk_of (by kernel_rfl) (z := .agg #[dV (.int .u64 0), dV (.int .u64 0), dV (.int .u32 0), dV (.int .u8 0), dV (.int .u8 0), dV (.int .u8 0), dV (.int .u8 0), dV (.nilf), dV (.nilp), dV (.int .i32 0), dV (.int .i32 0)]) (by kernel_rfl) rfl rfl rfl (.inl rfl)
def ti67 : TI := ⟨.struct #[⟨"Size_", 12, 0, false, "", "", 0⟩, ⟨"PtrBytes", 12, 1, false, "", "", 8⟩, ⟨"Hash", 59, 2, false, "", "", 16⟩, ⟨"TFlag", 60, 3, false, "", "", 20⟩, ⟨"Align_", 5, 4, false, "", "", 21⟩, ⟨"FieldAlign_", 5, 5, false, "", "", 22⟩, ⟨"Kind_", 61, 6, false, "", "", 23⟩, ⟨"Equal", 62, 7, false, "", "", 24⟩, ⟨"GCData", 63, 8, false, "", "", 32⟩, ⟨"Str", 64, 9, false, "", "", 40⟩, ⟨"PtrToThis", 65, 10, false, "", "", 44⟩], 11, 48, [.int .u64 0, .int .u64 0, .int .u32 0, .int .u8 0, .int .u8 0, .int .u8 0, .int .u8 0, .nilf, .nilp, .int .i32 0, .int .i32 0]⟩
theorem ty67 : TyOk Try.prog 67 ti67 := tyOk_of (by kernel_rfl) (z := .agg #[dV (.int .u64 0), dV (.int .u64 0), dV (.int .u32 0), dV (.int .u8 0), dV (.int .u8 0), dV (.int .u8 0), dV (.int .u8 0), dV (.nilf), dV (.nilp), dV (.int .i32 0), dV (.int .i32 0)]) (by kernel_rfl) rfl rfl rfl (.inl rfl)
def ti68 : TI := ⟨.unsafePointer, 1, 8, [.nilp]⟩
theorem ty68 : TyOk Try.prog 68 ti68 := tyOk_of (by kernel_rfl) (z := dV (.nilp)) (by kernel_rfl) rfl rfl rfl (.inr rfl)
def Tt : Nat → TI := tabOf [(1, ti1), (2, ti2), (3, ti3), (4, ti4), (5, ti5), (6, ti6), (7, ti7), (8, ti8), (9, ti9), (10, ti10), (11, ti11), (12, ti12), (13, ti13), (14, ti14), (15, ti15), (16, ti16), (17, ti17), (18, ti18), (19, ti19), (20, ti20), (21, ti21), (22, ti22), (23, ti23), (24, ti24), (25, ti25), (26, ti26), (27, ti27), (29, ti29), (30, ti30), (31, ti31), (32, ti32), (33, ti33), (34, ti34), (36, ti36), (37, ti37), (38, ti38), (39, ti39), (40, ti40), (41, ti41), (42, ti42), (43, ti43), (44, ti44), (45, ti45), (46, ti46), (47, ti47), (48, ti48), (49, ti49), (50, ti50), (51, ti51), (52, ti52), (53, ti53), (54, ti54), (55, ti55), (56, ti56), (57, ti57), (58, ti58), (59, ti59), (60, ti60), (61, ti61), (62, ti62), (63, ti63), (64, ti64), (65, ti65), (66, ti66), (67, ti67), (68, ti68)]
theorem Tt_ok : TabOk Try.prog Tt := tabOk_of_list (List.forall_mem_cons.2 ⟨ty1, List.forall_mem_cons.2 ⟨ty2, List.forall_mem_cons.2 ⟨ty3, List.forall_mem_cons.2 ⟨ty4, List.forall_mem_cons.2 ⟨ty5, List.forall_mem_cons.2 ⟨ty6, List.forall_mem_cons.2 ⟨ty7, List.forall_mem_cons.2 ⟨ty8, List.forall_mem_cons.2 ⟨ty9, List.forall_mem_cons.2 ⟨ty10, List.forall_mem_cons.2 ⟨ty11, List.forall_mem_cons.2 ⟨ty12, List.forall_mem_cons.2 ⟨ty13, List.forall_mem_cons.2 ⟨ty14, List.forall_mem_cons.2 ⟨ty15, List.forall_mem_cons.2 ⟨ty16, List.forall_mem_cons.2 ⟨ty17, List.forall_mem_cons.2 ⟨ty18, List.forall_mem_cons.2 ⟨ty19, List.forall_mem_cons.2 ⟨ty20, List.forall_mem_cons.2 ⟨ty21, List.forall_mem_cons.2 ⟨ty22, List.forall_mem_cons.2 ⟨ty23, List.forall_mem_cons.2 ⟨ty24, List.forall_mem_cons.2 ⟨ty25, List.forall_mem_cons.2 ⟨ty26, List.forall_mem_cons.2 ⟨ty27, List.forall_mem_cons.2 ⟨ty29, List.forall_mem_cons.2 ⟨ty30, List.forall_mem_cons.2 ⟨ty31, List.forall_mem_cons.2 ⟨ty32, List.forall_mem_cons.2 ⟨ty33, List.forall_mem_cons.2 ⟨ty34, List.forall_mem_cons.2 ⟨ty36, List.forall_mem_cons.2 ⟨ty37, List.forall_mem_cons.2 ⟨ty38, List.forall_mem_cons.2 ⟨ty39, List.forall_mem_cons.2 ⟨ty40, List.forall_mem_cons.2 ⟨ty41, List.forall_mem_cons.2 ⟨ty42, List.forall_mem_cons.2 ⟨ty43, List.forall_mem_cons.2 ⟨ty44, List.forall_mem_cons.2 ⟨ty45, List.forall_mem_cons.2 ⟨ty46, List.forall_mem_cons.2 ⟨ty47, List.forall_mem_cons.2 ⟨ty48, List.forall_mem_cons.2 ⟨ty49, List.forall_mem_cons.2 ⟨ty50, List.forall_mem_cons.2 ⟨ty51, List.forall_mem_cons.2 ⟨ty52, List.forall_mem_cons.2 ⟨ty53, List.forall_mem_cons.2 ⟨ty54, List.forall_mem_cons.2 ⟨ty55, List.forall_mem_cons.2 ⟨ty56, List.forall_mem_cons.2 ⟨ty57, List.forall_mem_cons.2 ⟨ty58, List.forall_mem_cons.2 ⟨ty59, List.forall_mem_cons.2 ⟨ty60, List.forall_mem_cons.2 ⟨ty61, List.forall_mem_cons.2 ⟨ty62, List.forall_mem_cons.2 ⟨ty63, List.forall_mem_cons.2 ⟨ty64, List.forall_mem_cons.2 ⟨ty65, List.forall_mem_cons.2 ⟨ty66, List.forall_mem_cons.2 ⟨ty67, List.forall_mem_cons.2 ⟨ty68, fun _ h => by cases h⟩⟩⟩⟩⟩⟩⟩⟩⟩⟩⟩⟩⟩⟩⟩⟩⟩⟩⟩⟩⟩⟩⟩⟩⟩⟩⟩⟩⟩⟩⟩⟩⟩⟩⟩⟩⟩⟩⟩⟩⟩⟩⟩⟩⟩⟩⟩⟩⟩⟩⟩⟩⟩⟩⟩⟩⟩⟩⟩⟩⟩⟩⟩⟩⟩⟩)
theorem mixed : Try.prog.follows .mixedOrders = true := by kernel_rfl
@[go_sem] theorem Tt_1 : Tt 1 = ⟨.func #[] #[] false, 1, 8, [.nilf]⟩ := Eq.trans rfl rfl
@[go_sem] theorem okSl_1 : okSl Tt 1 = false := Eq.trans rfl rfl
@[go_sem] theorem Tt_2 : Tt 2 = ⟨.int .i64, 1, 8, [.int .i64 0]⟩ := Eq.trans rfl rfl
@[go_sem] theorem okSl_2 : okSl Tt 2 = false := Eq.trans rfl rfl
@[go_sem] theorem Tt_3 : Tt 3 = ⟨.int .i64, 1, 8, [.int .i64 0]⟩ := Eq.trans rfl rfl
@[go_sem] theorem okSl_3 : okSl Tt 3 = false := Eq.trans rfl rfl
@[go_sem] theorem Tt_4 : Tt 4 = ⟨.bool, 1, 1, [.bool false]⟩ := Eq.trans rfl rfl
@[go_sem] theorem okSl_4 : okSl Tt 4 = false := Eq.trans rfl rfl
@[go_sem] theorem Tt_5 : Tt 5 = ⟨.int .u8, 1, 1, [.int .u8 0]⟩ := Eq.trans rfl rfl
@[go_sem] theorem okSl_5 : okSl Tt 5 = false := Eq.trans rfl rfl
@[go_sem] theorem Tt_6 : Tt 6 = ⟨.int .u8, 1, 1, [.int .u8 0]⟩ := Eq.trans rfl rfl
@[go_sem] theorem okSl_6 : okSl Tt 6 = false := Eq.trans rfl rfl
@[go_sem] theorem Tt_7 : Tt 7 = ⟨.struct #[⟨"x", 2, 0, false, "", "runtime", 0⟩, ⟨"y", 3, 1, false, "", "runtime", 8⟩, ⟨"signed", 4, 2, false, "", "runtime", 16⟩, ⟨"code", 6, 3, false, "", "runtime", 17⟩], 4, 24, [.int .i64 0, .int .i64 0, .bool false, .int .u8 0]⟩ := Eq.trans rfl rfl
@[go_sem] theorem okSl_7 : okSl Tt 7 = false := Eq.trans rfl rfl
@[go_sem] theorem okSt_7 : okSt Tt 7 = true := Eq.trans rfl rfl
@[go_sem] theorem Tt_8 : Tt 8 = ⟨.struct #[⟨"x", 2, 0, false, "", "runtime", 0⟩, ⟨"y", 3, 1, false, "", "runtime", 8⟩, ⟨"signed", 4, 2, false, "", "runtime", 16⟩, ⟨"code", 6, 3, false, "", "runtime", 17⟩], 4, 24, [.int .i64 0, .int .i64 0, .bool false, .int .u8 0]⟩ := Eq.trans rfl rfl
@[go_sem] theorem okSl_8 : okSl Tt 8 = false := Eq.trans rfl rfl
@[go_sem] theorem okSt_8 : okSt Tt 8 = true := Eq.trans rfl rfl
@[go_sem] theorem Tt_9 : Tt 9 = ⟨.string, 1, 16, [.str []]⟩ := Eq.trans rfl rfl
@[go_sem] theorem okSl_9 : okSl Tt 9 = false := Eq.trans rfl rfl
@[go_sem] theorem Tt_10 : Tt 10 = ⟨.string, 1, 16, [.str []]⟩ := Eq.trans rfl rfl
@[go_sem] theorem okSl_10 : okSl Tt 10 = false := Eq.trans rfl rfl
@[go_sem] theorem Tt_11 : Tt 11 = ⟨.string, 1, 16, [.str []]⟩ := Eq.trans rfl rfl
@[go_sem] theorem okSl_11 : okSl Tt 11 = false := Eq.trans rfl rfl
@[go_sem] theorem Tt_12 : Tt 12 = ⟨.int .u64, 1, 8, [.int .u64 0]⟩ := Eq.trans rfl rfl
@[go_sem] theorem okSl_12 : okSl Tt 12 = false := Eq.trans rfl rfl
@[go_sem] theorem Tt_13 : Tt 13 = ⟨.struct #[⟨"msg", 9, 0, false, "", "runtime", 0⟩, ⟨"addr", 12, 1, false, "", "runtime", 16⟩], 2, 24, [.str [], .int .u64 0]⟩ := Eq.trans rfl rfl
@[go_sem] theorem okSl_13 : okSl Tt 13 = false := Eq.trans rfl rfl
@[go_sem] theorem okSt_13 : okSt Tt 13 = true := Eq.trans rfl rfl
@[go_sem] theorem Tt_14 : Tt 14 = ⟨.struct #[⟨"msg", 9, 0, false, "", "runtime", 0⟩, ⟨"addr", 12, 1, false, "", "runtime", 16⟩], 2, 24, [.str [], .int .u64 0]⟩ := Eq.trans rfl rfl
@[go_sem] theorem okSl_14 : okSl Tt 14 = false := Eq.trans rfl rfl
@[go_sem] theorem okSt_14 : okSt Tt 14 = true := Eq.trans rfl rfl
@[go_sem] theorem Tt_15 : Tt 15 = ⟨.pointer 54, 1, 8, [.nilp]⟩ := Eq.trans rfl rfl
@[go_sem] theorem okSl_15 : okSl Tt 15 = false := Eq.trans rfl rfl
@[go_sem] theorem Tt_16 : Tt 16 = ⟨.pointer 57, 1, 8, [.nilp]⟩ := Eq.trans rfl rfl
@[go_sem] theorem okSl_16 : okSl Tt 16 = false := Eq.trans rfl rfl
@[go_sem] theorem Tt_17 : Tt 17 = ⟨.pointer 67, 1, 8, [.nilp]⟩ := Eq.trans rfl rfl
@[go_sem] theorem okSl_17 : okSl Tt 17 = false := Eq.trans rfl rfl
@[go_sem] theorem Tt_18 : Tt 18 = ⟨.struct #[⟨"typ", 17, 0, false, "", "internal/runtime/maps", 0⟩], 1, 8, [.nilp]⟩ := Eq.trans rfl rfl
@[go_sem] theorem okSl_18 : okSl Tt 18 = false := Eq.trans rfl rfl
@[go_sem] theorem okSt_18 : okSt Tt 18 = true := Eq.trans rfl rfl
@[go_sem] theorem Tt_19 : Tt 19 = ⟨.struct #[⟨"typ", 17, 0, false, "", "internal/runtime/maps", 0⟩], 1, 8, [.nilp]⟩ := Eq.trans rfl rfl
@[go_sem] theorem okSl_19 : okSl Tt 19 = false := Eq.trans rfl rfl
@[go_sem] theorem okSt_19 : okSt Tt 19 = true := Eq.trans rfl rfl
@[go_sem] theorem Tt_20 : Tt 20 = ⟨.interface #[], 1, 16, [.nili]⟩ := Eq.trans rfl rfl
@[go_sem] theorem okSl_20 : okSl Tt 20 = false := Eq.trans rfl rfl
@[go_sem] theorem Tt_21 : Tt 21 = ⟨.int .i32, 1, 4, [.int .i32 0]⟩ := Eq.trans rfl rfl
@[go_sem] theorem okSl_21 : okSl Tt 21 = false := Eq.trans rfl rfl
@[go_sem] theorem Tt_22 : Tt 22 = ⟨.slice 26, 1, 24, [.nsl]⟩ := Eq.trans rfl rfl
@[go_sem] theorem elem_22 : elemTI Tt 22 = ⟨.slice 5, 1, 24, [.nsl]⟩ := Eq.trans rfl rfl
@[go_sem] theorem okSl_22 : okSl Tt 22 = true := Eq.trans rfl rfl
@[go_sem] theorem Tt_23 : Tt 23 = ⟨.func #[] #[4] false, 1, 8, [.nilf]⟩ := Eq.trans rfl rfl
@[go_sem] theorem okSl_23 : okSl Tt 23 = false := Eq.trans rfl rfl
@[go_sem] theorem Tt_24 : Tt 24 = ⟨.slice 25, 1, 24, [.nsl]⟩ := Eq.trans rfl rfl
@[go_sem] theorem elem_24 : elemTI Tt 24 = ⟨.slice 3, 1, 24, [.nsl]⟩ := Eq.trans rfl rfl
@[go_sem] theorem okSl_24 : okSl Tt 24 = true := Eq.trans rfl rfl
@[go_sem] theorem Tt_25 : Tt 25 = ⟨.slice 3, 1, 24, [.nsl]⟩ := Eq.trans rfl rfl
@[go_sem] theorem elem_25 : elemTI Tt 25 = ⟨.int .i64, 1, 8, [.int .i64 0]⟩ := Eq.trans rfl rfl
@[go_sem] theorem okSl_25 : okSl Tt 25 = true := Eq.trans rfl rfl
@[go_sem] theorem Tt_26 : Tt 26 = ⟨.slice 5, 1, 24, [.nsl]⟩ := Eq.trans rfl rfl
@[go_sem] theorem elem_26 : elemTI Tt 26 = ⟨.int .u8, 1, 1, [.int .u8 0]⟩ := Eq.trans rfl rfl
@[go_sem] theorem okSl_26 : okSl Tt 26 = true := Eq.trans rfl rfl
@[go_sem] theorem Tt_27 : Tt 27 = ⟨.int .i64, 1, 8, [.int .i64 0]⟩ := Eq.trans rfl rfl
@[go_sem] theorem okSl_27 : okSl Tt 27 = false := Eq.trans rfl rfl
@[go_sem] theorem Tt_29 : Tt 29 = ⟨.func #[24] #[24, 27] false, 1, 8, [.nilf]⟩ := Eq.trans rfl rfl
@[go_sem] theorem okSl_29 : okSl Tt 29 = false := Eq.trans rfl rfl
@[go_sem] theorem Tt_30 : Tt 30 = ⟨.func #[24] #[25] false, 1, 8, [.nilf]⟩ := Eq.trans rfl rfl
@[go_sem] theorem okSl_30 : okSl Tt 30 = false := Eq.trans rfl rfl
@[go_sem] theorem Tt_31 : Tt 31 = ⟨.func #[22, 5] #[4] false, 1, 8, [.nilf]⟩ := Eq.trans rfl rfl
@[go_sem] theorem okSl_31 : okSl Tt 31 = false := Eq.trans rfl rfl
@[go_sem] theorem Tt_32 : Tt 32 = ⟨.func #[24, 3] #[4] false, 1, 8, [.nilf]⟩ := Eq.trans rfl rfl
@[go_sem] theorem okSl_32 : okSl Tt 32 = false := Eq.trans rfl rfl
@[go_sem] theorem Tt_33 : Tt 33 = ⟨.func #[24, 5, 5] #[4] false, 1, 8, [.nilf]⟩ := Eq.trans rfl rfl
@[go_sem] theorem okSl_33 : okSl Tt 33 = false := Eq.trans rfl rfl
@[go_sem] theorem Tt_34 : Tt 34 = ⟨.func #[25, 25] #[4] false, 1, 8, [.nilf]⟩ := Eq.trans rfl rfl
@[go_sem] theorem okSl_34 : okSl Tt 34 = false := Eq.trans rfl rfl
@[go_sem] theorem Tt_36 : Tt 36 = ⟨.func #[24] #[25, 27] false, 1, 8, [.nilf]⟩ := Eq.trans rfl rfl
@[go_sem] theorem okSl_36 : okSl Tt 36 = false := Eq.trans rfl rfl
@[go_sem] theorem Tt_37 : Tt 37 = ⟨.func #[24] #[4] false, 1, 8, [.nilf]⟩ := Eq.trans rfl rfl
@[go_sem] theorem okSl_37 : okSl Tt 37 = false := Eq.trans rfl rfl
@[go_sem] theorem Tt_38 : Tt 38 = ⟨.slice 4, 1, 24, [.nsl]⟩ := Eq.trans rfl rfl
@[go_sem] theorem elem_38 : elemTI Tt 38 = ⟨.bool, 1, 1, [.bool false]⟩ := Eq.trans rfl rfl
@[go_sem] theorem okSl_38 : okSl Tt 38 = true := Eq.trans rfl rfl
@[go_sem] theorem Tt_39 : Tt 39 = ⟨.func #[24, 25] #[4] false, 1, 8, [.nilf]⟩ := Eq.trans rfl rfl
@[go_sem] theorem okSl_39 : okSl Tt 39 = false := Eq.trans rfl rfl
@[go_sem] theorem Tt_40 : Tt 40 = ⟨.func #[24, 3] #[25, 27] false, 1, 8, [.nilf]⟩ := Eq.trans rfl rfl
@[go_sem] theorem okSl_40 : okSl Tt 40 = false := Eq.trans rfl rfl
@[go_sem] theorem Tt_41 : Tt 41 = ⟨.func #[24, 5] #[4] false, 1, 8, [.nilf]⟩ := Eq.trans rfl rfl
@[go_sem] theorem okSl_41 : okSl Tt 41 = false := Eq.trans rfl rfl
@[go_sem] theorem Tt_42 : Tt 42 = ⟨.func #[25, 43] #[25] false, 1, 8, [.nilf]⟩ := Eq.trans rfl rfl
@[go_sem] theorem okSl_42 : okSl Tt 42 = false := Eq.trans rfl rfl
@[go_sem] theorem Tt_43 : Tt 43 = ⟨.func #[3] #[25] false, 1, 8, [.nilf]⟩ := Eq.trans rfl rfl
@[go_sem] theorem okSl_43 : okSl Tt 43 = false := Eq.trans rfl rfl
@[go_sem] theorem Tt_44 : Tt 44 = ⟨.func #[25, 38] #[4] false, 1, 8, [.nilf]⟩ := Eq.trans rfl rfl
@[go_sem] theorem okSl_44 : okSl Tt 44 = false := Eq.trans rfl rfl
@[go_sem] theorem Tt_45 : Tt 45 = ⟨.func #[25, 3] #[4] false, 1, 8, [.nilf]⟩ := Eq.trans rfl rfl
@[go_sem] theorem okSl_45 : okSl Tt 45 = false := Eq.trans rfl rfl
@[go_sem] theorem Tt_46 : Tt 46 = ⟨.map 3 3, 1, 8, [.nilm]⟩ := Eq.trans rfl rfl
@[go_sem] theorem okSl_46 : okSl Tt 46 = false := Eq.trans rfl rfl
@[go_sem] theorem Tt_47 : Tt 47 = ⟨.struct #[⟨"thing", 3, 0, false, "", "seedcorn/graph", 0⟩, ⟨"looked", 3, 1, false, "", "seedcorn/graph", 8⟩], 2, 16, [.int .i64 0, .int .i64 0]⟩ := Eq.trans rfl rfl
@[go_sem] theorem okSl_47 : okSl Tt 47 = false := Eq.trans rfl rfl
@[go_sem] theorem okSt_47 : okSt Tt 47 = true := Eq.trans rfl rfl
@[go_sem] theorem Tt_48 : Tt 48 = ⟨.struct #[⟨"thing", 3, 0, false, "", "seedcorn/graph", 0⟩, ⟨"looked", 3, 1, false, "", "seedcorn/graph", 8⟩], 2, 16, [.int .i64 0, .int .i64 0]⟩ := Eq.trans rfl rfl
@[go_sem] theorem okSl_48 : okSl Tt 48 = false := Eq.trans rfl rfl
@[go_sem] theorem okSt_48 : okSt Tt 48 = true := Eq.trans rfl rfl
@[go_sem] theorem Tt_49 : Tt 49 = ⟨.slice 48, 1, 24, [.nsl]⟩ := Eq.trans rfl rfl
@[go_sem] theorem elem_49 : elemTI Tt 49 = ⟨.struct #[⟨"thing", 3, 0, false, "", "seedcorn/graph", 0⟩, ⟨"looked", 3, 1, false, "", "seedcorn/graph", 8⟩], 2, 16, [.int .i64 0, .int .i64 0]⟩ := Eq.trans rfl rfl
@[go_sem] theorem okSl_49 : okSl Tt 49 = true := Eq.trans rfl rfl
@[go_sem] theorem Tt_50 : Tt 50 = ⟨.pointer 48, 1, 8, [.nilp]⟩ := Eq.trans rfl rfl
@[go_sem] theorem okSl_50 : okSl Tt 50 = false := Eq.trans rfl rfl
@[go_sem] theorem Tt_51 : Tt 51 = ⟨.func #[49, 3] #[25] false, 1, 8, [.nilf]⟩ := Eq.trans rfl rfl
@[go_sem] theorem okSl_51 : okSl Tt 51 = false := Eq.trans rfl rfl
@[go_sem] theorem Tt_52 : Tt 52 = ⟨.func #[] #[9] false, 1, 8, [.nilf]⟩ := Eq.trans rfl rfl
@[go_sem] theorem okSl_52 : okSl Tt 52 = false := Eq.trans rfl rfl
@[go_sem] theorem Tt_53 : Tt 53 = ⟨.struct #[⟨"_interface", 17, 0, false, "", "runtime", 0⟩, ⟨"concrete", 17, 1, false, "", "runtime", 8⟩, ⟨"asserted", 17, 2, false, "", "runtime", 16⟩, ⟨"missingMethod", 9, 3, false, "", "runtime", 24⟩], 4, 40, [.nilp, .nilp, .nilp, .str []]⟩ := Eq.trans rfl rfl
@[go_sem] theorem okSl_53 : okSl Tt 53 = false := Eq.trans rfl rfl
@[go_sem] theorem okSt_53 : okSt Tt 53 = true := Eq.trans rfl rfl
@[go_sem] theorem Tt_54 : Tt 54 = ⟨.struct #[⟨"_interface", 17, 0, false, "", "runtime", 0⟩, ⟨"concrete", 17, 1, false, "", "runtime", 8⟩, ⟨"asserted", 17, 2, false, "", "runtime", 16⟩, ⟨"missingMethod", 9, 3, false, "", "runtime", 24⟩], 4, 40, [.nilp, .nilp, .nilp, .str []]⟩ := Eq.trans rfl rfl
@[go_sem] theorem okSl_54 : okSl Tt 54 = false := Eq.trans rfl rfl
@[go_sem] theorem okSt_54 : okSt Tt 54 = true := Eq.trans rfl rfl
@[go_sem] theorem Tt_55 : Tt 55 = ⟨.array 0 16, 0, 0, []⟩ := Eq.trans rfl rfl
@[go_sem] theorem okSl_55 : okSl Tt 55 = false := Eq.trans rfl rfl
@[go_sem] theorem Tt_56 : Tt 56 = ⟨.struct #[⟨"_", 55, 0, false, "", "runtime", 0⟩], 0, 0, []⟩ := Eq.trans rfl rfl
@[go_sem] theorem okSl_56 : okSl Tt 56 = false := Eq.trans rfl rfl
@[go_sem] theorem okSt_56 : okSt Tt 56 = true := Eq.trans rfl rfl
@[go_sem] theorem Tt_57 : Tt 57 = ⟨.struct #[⟨"_", 55, 0, false, "", "runtime", 0⟩], 0, 0, []⟩ := Eq.trans rfl rfl
@[go_sem] theorem okSl_57 : okSl Tt 57 = false := Eq.trans rfl rfl
@[go_sem] theorem okSt_57 : okSt Tt 57 = true := Eq.trans rfl rfl
@[go_sem] theorem Tt_58 : Tt 58 = ⟨.func #[] #[3] false, 1, 8, [.nilf]⟩ := Eq.trans rfl rfl
@[go_sem] theorem okSl_58 : okSl Tt 58 = false := Eq.trans rfl rfl
@[go_sem] theorem Tt_59 : Tt 59 = ⟨.int .u32, 1, 4, [.int .u32 0]⟩ := Eq.trans rfl rfl
@[go_sem] theorem okSl_59 : okSl Tt 59 = false := Eq.trans rfl rfl
@[go_sem] theorem Tt_60 : Tt 60 = ⟨.int .u8, 1, 1, [.int .u8 0]⟩ := Eq.trans rfl rfl
@[go_sem] theorem okSl_60 : okSl Tt 60 = false := Eq.trans rfl rfl
@[go_sem] theorem Tt_61 : Tt 61 = ⟨.int .u8, 1, 1, [.int .u8 0]⟩ := Eq.trans rfl rfl
@[go_sem] theorem okSl_61 : okSl Tt 61 = false := Eq.trans rfl rfl
@[go_sem] theorem Tt_62 : Tt 62 = ⟨.func #[68, 68] #[4] false, 1, 8, [.nilf]⟩ := Eq.trans rfl rfl
@[go_sem] theorem okSl_62 : okSl Tt 62 = false := Eq.trans rfl rfl
@[go_sem] theorem Tt_63 : Tt 63 = ⟨.pointer 5, 1, 8, [.nilp]⟩ := Eq.trans rfl rfl
@[go_sem] theorem okSl_63 : okSl Tt 63 = false := Eq.trans rfl rfl
@[go_sem] theorem Tt_64 : Tt 64 = ⟨.int .i32, 1, 4, [.int .i32 0]⟩ := Eq.trans rfl rfl
@[go_sem] theorem okSl_64 : okSl Tt 64 = false := Eq.trans rfl rfl
@[go_sem] theorem Tt_65 : Tt 65 = ⟨.int .i32, 1, 4, [.int .i32 0]⟩ := Eq.trans rfl rfl
@[go_sem] theorem okSl_65 : okSl Tt 65 = false := Eq.trans rfl rfl
@[go_sem] theorem Tt_66 : Tt 66 = ⟨.struct #[⟨"Size_", 12, 0, false, "", "", 0⟩, ⟨"PtrBytes", 12, 1, false, "", "", 8⟩, ⟨"Hash", 59, 2, false, "", "", 16⟩, ⟨"TFlag", 60, 3, false, "", "", 20⟩, ⟨"Align_", 5, 4, false, "", "", 21⟩, ⟨"FieldAlign_", 5, 5, false, "", "", 22⟩, ⟨"Kind_", 61, 6, false, "", "", 23⟩, ⟨"Equal", 62, 7, false, "", "", 24⟩, ⟨"GCData", 63, 8, false, "", "", 32⟩, ⟨"Str", 64, 9, false, "", "", 40⟩, ⟨"PtrToThis", 65, 10, false, "", "", 44⟩], 11, 48, [.int .u64 0, .int .u64 0, .int .u32 0, .int .u8 0, .int .u8 0, .int .u8 0, .int .u8 0, .nilf, .nilp, .int .i32 0, .int .i32 0]⟩ := Eq.trans rfl rfl
@[go_sem] theorem okSl_66 : okSl Tt 66 = false := Eq.trans rfl rfl
@[go_sem] theorem okSt_66 : okSt Tt 66 = true := Eq.trans rfl rfl
@[go_sem] theorem Tt_67 : Tt 67 = ⟨.struct #[⟨"Size_", 12, 0, false, "", "", 0⟩, ⟨"PtrBytes", 12, 1, false, "", "", 8⟩, ⟨"Hash", 59, 2, false, "", "", 16⟩, ⟨"TFlag", 60, 3, false, "", "", 20⟩, ⟨"Align_", 5, 4, false, "", "", 21⟩, ⟨"FieldAlign_", 5, 5, false, "", "", 22⟩, ⟨"Kind_", 61, 6, false, "", "", 23⟩, ⟨"Equal", 62, 7, false, "", "", 24⟩, ⟨"GCData", 63, 8, false, "", "", 32⟩, ⟨"Str", 64, 9, false, "", "", 40⟩, ⟨"PtrToThis", 65, 10, false, "", "", 44⟩], 11, 48, [.int .u64 0, .int .u64 0, .int .u32 0, .int .u8 0, .int .u8 0, .int .u8 0, .int .u8 0, .nilf, .nilp, .int .i32 0, .int .i32 0]⟩ := Eq.trans rfl rfl
@[go_sem] theorem okSl_67 : okSl Tt 67 = false := Eq.trans rfl rfl
@[go_sem] theorem okSt_67 : okSt Tt 67 = true := Eq.trans rfl rfl
@[go_sem] theorem Tt_68 : Tt 68 = ⟨.unsafePointer, 1, 8, [.nilp]⟩ := Eq.trans rfl rfl
@[go_sem] theorem okSl_68 : okSl Tt 68 = false := Eq.trans rfl rfl
end Go.Proofs.Ytfhmibodjfpdfaa
