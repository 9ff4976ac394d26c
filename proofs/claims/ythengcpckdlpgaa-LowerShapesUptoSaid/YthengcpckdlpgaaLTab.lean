/- The table of this seat's types, by program, and that it is the program's. -/
import Derived.Test.YthengcpckdlpgaaAm10
import Derived.Test.YthengcpckdlpgaaProg
import Derived.KernelRfl
set_option linter.unusedSimpArgs false
set_option linter.unusedVariables false
namespace Go.Proofs.Ythengcpckdlpgaa
open Go Go.Am

def ti1 : TI := ⟨.func #[] #[] false, 1, 8, [.nilf]⟩
theorem ty1 : TyOk Try.prog 1 ti1 := tyOk_of (by kernel_rfl) (z := dV (.nilf)) (by kernel_rfl) rfl rfl rfl (.inr rfl)
def ti2 : TI := ⟨.int .i64, 1, 8, [.int .i64 0]⟩
theorem ty2 : TyOk Try.prog 2 ti2 := tyOk_of (by kernel_rfl) (z := dV (.int .i64 0)) (by kernel_rfl) rfl rfl rfl (.inr rfl)
def ti3 : TI := ⟨.int .i64, 1, 8, [.int .i64 0]⟩
theorem ty3 : TyOk Try.prog 3 ti3 := tyOk_of (by kernel_rfl) (z := dV (.int .i64 0)) (by kernel_rfl) rfl rfl rfl (.inr rfl)
def ti4 : TI := ⟨.bool, 1, 1, [.bool false]⟩
theorem ty4 : TyOk Try.prog 4 ti4 := tyOk_of (by kernel_rfl) (z := dV (.bool false)) (by kernel_rfl) rfl rfl rfl (.inr rfl)
def ti5 : TI := ⟨.int .u8, 1, 1, [.int .u8 0]⟩
theorem ty5 : TyOk Try.prog 5 ti5 := tyOk_of (by kernel_rfl) (z := dV (.int .u8 0)) (by kernel_rfl) rfl rfl rfl (.inr rfl)
def ti6 : TI := ⟨.int .u8, 1, 1, [.int .u8 0]⟩
theorem ty6 : TyOk Try.prog 6 ti6 := tyOk_of (by kernel_rfl) (z := dV (.int .u8 0)) (by kernel_rfl) rfl rfl rfl (.inr rfl)
def ti7 : TI := ⟨.struct #[⟨"x", 2, 0, false, "", "runtime", 0⟩, ⟨"y", 3, 1, false, "", "runtime", 8⟩, ⟨"signed", 4, 2, false, "", "runtime", 16⟩, ⟨"code", 6, 3, false, "", "runtime", 17⟩], 4, 24, [.int .i64 0, .int .i64 0, .bool false, .int .u8 0]⟩
theorem ty7 : TyOk Try.prog 7 ti7 := tyOk_of (by kernel_rfl) (z := .agg #[dV (.int .i64 0), dV (.int .i64 0), dV (.bool false), dV (.int .u8 0)]) (by kernel_rfl) rfl rfl rfl (.inl rfl)
def ti8 : TI := ⟨.struct #[⟨"x", 2, 0, false, "", "runtime", 0⟩, ⟨"y", 3, 1, false, "", "runtime", 8⟩, ⟨"signed", 4, 2, false, "", "runtime", 16⟩, ⟨"code", 6, 3, false, "", "runtime", 17⟩], 4, 24, [.int .i64 0, .int .i64 0, .bool false, .int .u8 0]⟩
theorem ty8 : TyOk Try.prog 8 ti8 := tyOk_of (by kernel_rfl) (z := .agg #[dV (.int .i64 0), dV (.int .i64 0), dV (.bool false), dV (.int .u8 0)]) (by kernel_rfl) rfl rfl rfl (.inl rfl)
def ti9 : TI := ⟨.string, 1, 16, [.str []]⟩
theorem ty9 : TyOk Try.prog 9 ti9 := tyOk_of (by kernel_rfl) (z := dV (.str [])) (by kernel_rfl) rfl rfl rfl (.inr rfl)
def ti10 : TI := ⟨.string, 1, 16, [.str []]⟩
theorem ty10 : TyOk Try.prog 10 ti10 := tyOk_of (by kernel_rfl) (z := dV (.str [])) (by kernel_rfl) rfl rfl rfl (.inr rfl)
def ti11 : TI := ⟨.string, 1, 16, [.str []]⟩
theorem ty11 : TyOk Try.prog 11 ti11 := tyOk_of (by kernel_rfl) (z := dV (.str [])) (by kernel_rfl) rfl rfl rfl (.inr rfl)
def ti12 : TI := ⟨.int .u64, 1, 8, [.int .u64 0]⟩
theorem ty12 : TyOk Try.prog 12 ti12 := tyOk_of (by kernel_rfl) (z := dV (.int .u64 0)) (by kernel_rfl) rfl rfl rfl (.inr rfl)
def ti13 : TI := ⟨.struct #[⟨"msg", 9, 0, false, "", "runtime", 0⟩, ⟨"addr", 12, 1, false, "", "runtime", 16⟩], 2, 24, [.str [], .int .u64 0]⟩
theorem ty13 : TyOk Try.prog 13 ti13 := tyOk_of (by kernel_rfl) (z := .agg #[dV (.str []), dV (.int .u64 0)]) (by kernel_rfl) rfl rfl rfl (.inl rfl)
def ti14 : TI := ⟨.struct #[⟨"msg", 9, 0, false, "", "runtime", 0⟩, ⟨"addr", 12, 1, false, "", "runtime", 16⟩], 2, 24, [.str [], .int .u64 0]⟩
theorem ty14 : TyOk Try.prog 14 ti14 := tyOk_of (by kernel_rfl) (z := .agg #[dV (.str []), dV (.int .u64 0)]) (by kernel_rfl) rfl rfl rfl (.inl rfl)
def ti15 : TI := ⟨.pointer 101, 1, 8, [.nilp]⟩
theorem ty15 : TyOk Try.prog 15 ti15 := tyOk_of (by kernel_rfl) (z := dV (.nilp)) (by kernel_rfl) rfl rfl rfl (.inr rfl)
def ti16 : TI := ⟨.pointer 104, 1, 8, [.nilp]⟩
theorem ty16 : TyOk Try.prog 16 ti16 := tyOk_of (by kernel_rfl) (z := dV (.nilp)) (by kernel_rfl) rfl rfl rfl (.inr rfl)
def ti17 : TI := ⟨.pointer 113, 1, 8, [.nilp]⟩
theorem ty17 : TyOk Try.prog 17 ti17 := tyOk_of (by kernel_rfl) (z := dV (.nilp)) (by kernel_rfl) rfl rfl rfl (.inr rfl)
def ti18 : TI := ⟨.struct #[⟨"typ", 17, 0, false, "", "internal/runtime/maps", 0⟩], 1, 8, [.nilp]⟩
theorem ty18 : TyOk Try.prog 18 ti18 := tyOk_of (by kernel_rfl) (z := .agg #[dV (.nilp)]) (by kernel_rfl) rfl rfl rfl (.inl rfl)
def ti19 : TI := ⟨.struct #[⟨"typ", 17, 0, false, "", "internal/runtime/maps", 0⟩], 1, 8, [.nilp]⟩
theorem ty19 : TyOk Try.prog 19 ti19 := tyOk_of (by kernel_rfl) (z := .agg #[dV (.nilp)]) (by kernel_rfl) rfl rfl rfl (.inl rfl)
def ti20 : TI := ⟨.interface #[], 1, 16, [.nili]⟩
theorem ty20 : TyOk Try.prog 20 ti20 := tyOk_of (by kernel_rfl) (z := dV (.nili)) (by kernel_rfl) rfl rfl rfl (.inr rfl)
def ti21 : TI := ⟨.int .i32, 1, 4, [.int .i32 0]⟩
theorem ty21 : TyOk Try.prog 21 ti21 := tyOk_of (by kernel_rfl) (z := dV (.int .i32 0)) (by kernel_rfl) rfl rfl rfl (.inr rfl)
def ti22 : TI := ⟨.slice 34, 1, 24, [.nsl]⟩
theorem ty22 : TyOk Try.prog 22 ti22 := tyOk_of (by kernel_rfl) (z := dV (.nsl)) (by kernel_rfl) rfl rfl rfl (.inr rfl)
def ti23 : TI := ⟨.struct #[⟨"Words", 3, 0, false, "", "", 0⟩, ⟨"Funcs", 22, 1, false, "", "", 8⟩], 2, 32, [.int .i64 0, .nsl]⟩
theorem ty23 : TyOk Try.prog 23 ti23 := tyOk_of (by kernel_rfl) (z := .agg #[dV (.int .i64 0), dV (.nsl)]) (by kernel_rfl) rfl rfl rfl (.inl rfl)
def ti24 : TI := ⟨.struct #[⟨"Words", 3, 0, false, "", "", 0⟩, ⟨"Funcs", 22, 1, false, "", "", 8⟩], 2, 32, [.int .i64 0, .nsl]⟩
theorem ty24 : TyOk Try.prog 24 ti24 := tyOk_of (by kernel_rfl) (z := .agg #[dV (.int .i64 0), dV (.nsl)]) (by kernel_rfl) rfl rfl rfl (.inl rfl)
def ti25 : TI := ⟨.func #[24, 9] #[4] false, 1, 8, [.nilf]⟩
theorem ty25 : TyOk Try.prog 25 ti25 := tyOk_of (by kernel_rfl) (z := dV (.nilf)) (by kernel_rfl) rfl rfl rfl (.inr rfl)
def ti26 : TI := ⟨.func #[] #[4] false, 1, 8, [.nilf]⟩
theorem ty26 : TyOk Try.prog 26 ti26 := tyOk_of (by kernel_rfl) (z := dV (.nilf)) (by kernel_rfl) rfl rfl rfl (.inr rfl)
def ti27 : TI := ⟨.slice 37, 1, 24, [.nsl]⟩
theorem ty27 : TyOk Try.prog 27 ti27 := tyOk_of (by kernel_rfl) (z := dV (.nsl)) (by kernel_rfl) rfl rfl rfl (.inr rfl)
def ti28 : TI := ⟨.struct #[⟨"Words", 3, 0, false, "", "", 0⟩, ⟨"Funcs", 27, 1, false, "", "", 8⟩], 2, 32, [.int .i64 0, .nsl]⟩
theorem ty28 : TyOk Try.prog 28 ti28 := tyOk_of (by kernel_rfl) (z := .agg #[dV (.int .i64 0), dV (.nsl)]) (by kernel_rfl) rfl rfl rfl (.inl rfl)
def ti29 : TI := ⟨.struct #[⟨"Words", 3, 0, false, "", "", 0⟩, ⟨"Funcs", 27, 1, false, "", "", 8⟩], 2, 32, [.int .i64 0, .nsl]⟩
theorem ty29 : TyOk Try.prog 29 ti29 := tyOk_of (by kernel_rfl) (z := .agg #[dV (.int .i64 0), dV (.nsl)]) (by kernel_rfl) rfl rfl rfl (.inl rfl)
def ti30 : TI := ⟨.func #[24] #[29] false, 1, 8, [.nilf]⟩
theorem ty30 : TyOk Try.prog 30 ti30 := tyOk_of (by kernel_rfl) (z := dV (.nilf)) (by kernel_rfl) rfl rfl rfl (.inr rfl)
def ti31 : TI := ⟨.func #[29] #[4] false, 1, 8, [.nilf]⟩
theorem ty31 : TyOk Try.prog 31 ti31 := tyOk_of (by kernel_rfl) (z := dV (.nilf)) (by kernel_rfl) rfl rfl rfl (.inr rfl)
def ti32 : TI := ⟨.slice 46, 1, 24, [.nsl]⟩
theorem ty32 : TyOk Try.prog 32 ti32 := tyOk_of (by kernel_rfl) (z := dV (.nsl)) (by kernel_rfl) rfl rfl rfl (.inr rfl)
def ti33 : TI := ⟨.struct #[⟨"Params", 3, 0, false, "", "", 0⟩, ⟨"Slots", 3, 1, false, "", "", 8⟩, ⟨"First", 3, 2, false, "", "", 16⟩, ⟨"Word", 4, 3, false, "", "", 24⟩, ⟨"Body", 32, 4, false, "", "", 32⟩], 5, 56, [.int .i64 0, .int .i64 0, .int .i64 0, .bool false, .nsl]⟩
theorem ty33 : TyOk Try.prog 33 ti33 := tyOk_of (by kernel_rfl) (z := .agg #[dV (.int .i64 0), dV (.int .i64 0), dV (.int .i64 0), dV (.bool false), dV (.nsl)]) (by kernel_rfl) rfl rfl rfl (.inl rfl)
def ti34 : TI := ⟨.struct #[⟨"Params", 3, 0, false, "", "", 0⟩, ⟨"Slots", 3, 1, false, "", "", 8⟩, ⟨"First", 3, 2, false, "", "", 16⟩, ⟨"Word", 4, 3, false, "", "", 24⟩, ⟨"Body", 32, 4, false, "", "", 32⟩], 5, 56, [.int .i64 0, .int .i64 0, .int .i64 0, .bool false, .nsl]⟩
theorem ty34 : TyOk Try.prog 34 ti34 := tyOk_of (by kernel_rfl) (z := .agg #[dV (.int .i64 0), dV (.int .i64 0), dV (.int .i64 0), dV (.bool false), dV (.nsl)]) (by kernel_rfl) rfl rfl rfl (.inl rfl)
def ti35 : TI := ⟨.slice 57, 1, 24, [.nsl]⟩
theorem ty35 : TyOk Try.prog 35 ti35 := tyOk_of (by kernel_rfl) (z := dV (.nsl)) (by kernel_rfl) rfl rfl rfl (.inr rfl)
def ti36 : TI := ⟨.struct #[⟨"Params", 3, 0, false, "", "", 0⟩, ⟨"Slots", 3, 1, false, "", "", 8⟩, ⟨"First", 3, 2, false, "", "", 16⟩, ⟨"Word", 4, 3, false, "", "", 24⟩, ⟨"Code", 35, 4, false, "", "", 32⟩], 5, 56, [.int .i64 0, .int .i64 0, .int .i64 0, .bool false, .nsl]⟩
theorem ty36 : TyOk Try.prog 36 ti36 := tyOk_of (by kernel_rfl) (z := .agg #[dV (.int .i64 0), dV (.int .i64 0), dV (.int .i64 0), dV (.bool false), dV (.nsl)]) (by kernel_rfl) rfl rfl rfl (.inl rfl)
def ti37 : TI := ⟨.struct #[⟨"Params", 3, 0, false, "", "", 0⟩, ⟨"Slots", 3, 1, false, "", "", 8⟩, ⟨"First", 3, 2, false, "", "", 16⟩, ⟨"Word", 4, 3, false, "", "", 24⟩, ⟨"Code", 35, 4, false, "", "", 32⟩], 5, 56, [.int .i64 0, .int .i64 0, .int .i64 0, .bool false, .nsl]⟩
theorem ty37 : TyOk Try.prog 37 ti37 := tyOk_of (by kernel_rfl) (z := .agg #[dV (.int .i64 0), dV (.int .i64 0), dV (.int .i64 0), dV (.bool false), dV (.nsl)]) (by kernel_rfl) rfl rfl rfl (.inl rfl)
def ti38 : TI := ⟨.func #[24] #[4] false, 1, 8, [.nilf]⟩
theorem ty38 : TyOk Try.prog 38 ti38 := tyOk_of (by kernel_rfl) (z := dV (.nilf)) (by kernel_rfl) rfl rfl rfl (.inr rfl)
def ti39 : TI := ⟨.func #[24] #[3] false, 1, 8, [.nilf]⟩
theorem ty39 : TyOk Try.prog 39 ti39 := tyOk_of (by kernel_rfl) (z := dV (.nilf)) (by kernel_rfl) rfl rfl rfl (.inr rfl)
def ti40 : TI := ⟨.struct #[⟨"End", 3, 0, false, "", "", 0⟩, ⟨"Out", 9, 1, false, "", "", 8⟩, ⟨"Steps", 3, 2, false, "", "", 24⟩], 3, 32, [.int .i64 0, .str [], .int .i64 0]⟩
theorem ty40 : TyOk Try.prog 40 ti40 := tyOk_of (by kernel_rfl) (z := .agg #[dV (.int .i64 0), dV (.str []), dV (.int .i64 0)]) (by kernel_rfl) rfl rfl rfl (.inl rfl)
def ti41 : TI := ⟨.struct #[⟨"End", 3, 0, false, "", "", 0⟩, ⟨"Out", 9, 1, false, "", "", 8⟩, ⟨"Steps", 3, 2, false, "", "", 24⟩], 3, 32, [.int .i64 0, .str [], .int .i64 0]⟩
theorem ty41 : TyOk Try.prog 41 ti41 := tyOk_of (by kernel_rfl) (z := .agg #[dV (.int .i64 0), dV (.str []), dV (.int .i64 0)]) (by kernel_rfl) rfl rfl rfl (.inl rfl)
def ti42 : TI := ⟨.func #[29, 9, 3] #[41] false, 1, 8, [.nilf]⟩
theorem ty42 : TyOk Try.prog 42 ti42 := tyOk_of (by kernel_rfl) (z := dV (.nilf)) (by kernel_rfl) rfl rfl rfl (.inr rfl)
def ti43 : TI := ⟨.func #[3, 32] #[24] true, 1, 8, [.nilf]⟩
theorem ty43 : TyOk Try.prog 43 ti43 := tyOk_of (by kernel_rfl) (z := dV (.nilf)) (by kernel_rfl) rfl rfl rfl (.inr rfl)
def ti44 : TI := ⟨.slice 50, 1, 24, [.nsl]⟩
theorem ty44 : TyOk Try.prog 44 ti44 := tyOk_of (by kernel_rfl) (z := dV (.nsl)) (by kernel_rfl) rfl rfl rfl (.inr rfl)
def ti45 : TI := ⟨.struct #[⟨"Kind", 3, 0, false, "", "", 0⟩, ⟨"Slot", 3, 1, false, "", "", 8⟩, ⟨"Size", 3, 2, false, "", "", 16⟩, ⟨"E", 44, 3, false, "", "", 24⟩, ⟨"Then", 32, 4, false, "", "", 48⟩, ⟨"Else", 32, 5, false, "", "", 72⟩], 6, 96, [.int .i64 0, .int .i64 0, .int .i64 0, .nsl, .nsl, .nsl]⟩
theorem ty45 : TyOk Try.prog 45 ti45 := tyOk_of (by kernel_rfl) (z := .agg #[dV (.int .i64 0), dV (.int .i64 0), dV (.int .i64 0), dV (.nsl), dV (.nsl), dV (.nsl)]) (by kernel_rfl) rfl rfl rfl (.inl rfl)
def ti46 : TI := ⟨.struct #[⟨"Kind", 3, 0, false, "", "", 0⟩, ⟨"Slot", 3, 1, false, "", "", 8⟩, ⟨"Size", 3, 2, false, "", "", 16⟩, ⟨"E", 44, 3, false, "", "", 24⟩, ⟨"Then", 32, 4, false, "", "", 48⟩, ⟨"Else", 32, 5, false, "", "", 72⟩], 6, 96, [.int .i64 0, .int .i64 0, .int .i64 0, .nsl, .nsl, .nsl]⟩
theorem ty46 : TyOk Try.prog 46 ti46 := tyOk_of (by kernel_rfl) (z := .agg #[dV (.int .i64 0), dV (.int .i64 0), dV (.int .i64 0), dV (.nsl), dV (.nsl), dV (.nsl)]) (by kernel_rfl) rfl rfl rfl (.inl rfl)
def ti47 : TI := ⟨.func #[50] #[46] false, 1, 8, [.nilf]⟩
theorem ty47 : TyOk Try.prog 47 ti47 := tyOk_of (by kernel_rfl) (z := dV (.nilf)) (by kernel_rfl) rfl rfl rfl (.inr rfl)
def ti48 : TI := ⟨.int .u32, 1, 4, [.int .u32 0]⟩
theorem ty48 : TyOk Try.prog 48 ti48 := tyOk_of (by kernel_rfl) (z := dV (.int .u32 0)) (by kernel_rfl) rfl rfl rfl (.inr rfl)
def ti49 : TI := ⟨.struct #[⟨"Kind", 3, 0, false, "", "", 0⟩, ⟨"Op", 3, 1, false, "", "", 8⟩, ⟨"Num", 48, 2, false, "", "", 16⟩, ⟨"Slot", 3, 3, false, "", "", 24⟩, ⟨"Size", 3, 4, false, "", "", 32⟩, ⟨"Kids", 44, 5, false, "", "", 40⟩], 6, 64, [.int .i64 0, .int .i64 0, .int .u32 0, .int .i64 0, .int .i64 0, .nsl]⟩
theorem ty49 : TyOk Try.prog 49 ti49 := tyOk_of (by kernel_rfl) (z := .agg #[dV (.int .i64 0), dV (.int .i64 0), dV (.int .u32 0), dV (.int .i64 0), dV (.int .i64 0), dV (.nsl)]) (by kernel_rfl) rfl rfl rfl (.inl rfl)
def ti50 : TI := ⟨.struct #[⟨"Kind", 3, 0, false, "", "", 0⟩, ⟨"Op", 3, 1, false, "", "", 8⟩, ⟨"Num", 48, 2, false, "", "", 16⟩, ⟨"Slot", 3, 3, false, "", "", 24⟩, ⟨"Size", 3, 4, false, "", "", 32⟩, ⟨"Kids", 44, 5, false, "", "", 40⟩], 6, 64, [.int .i64 0, .int .i64 0, .int .u32 0, .int .i64 0, .int .i64 0, .nsl]⟩
theorem ty50 : TyOk Try.prog 50 ti50 := tyOk_of (by kernel_rfl) (z := .agg #[dV (.int .i64 0), dV (.int .i64 0), dV (.int .u32 0), dV (.int .i64 0), dV (.int .i64 0), dV (.nsl)]) (by kernel_rfl) rfl rfl rfl (.inl rfl)
def ti51 : TI := ⟨.func #[3, 50, 50] #[50] false, 1, 8, [.nilf]⟩
theorem ty51 : TyOk Try.prog 51 ti51 := tyOk_of (by kernel_rfl) (z := dV (.nilf)) (by kernel_rfl) rfl rfl rfl (.inr rfl)
def ti52 : TI := ⟨.func #[48] #[50] false, 1, 8, [.nilf]⟩
theorem ty52 : TyOk Try.prog 52 ti52 := tyOk_of (by kernel_rfl) (z := dV (.nilf)) (by kernel_rfl) rfl rfl rfl (.inr rfl)
def ti53 : TI := ⟨.func #[24, 50] #[35] false, 1, 8, [.nilf]⟩
theorem ty53 : TyOk Try.prog 53 ti53 := tyOk_of (by kernel_rfl) (z := dV (.nilf)) (by kernel_rfl) rfl rfl rfl (.inr rfl)
def ti54 : TI := ⟨.func #[34] #[35] false, 1, 8, [.nilf]⟩
theorem ty54 : TyOk Try.prog 54 ti54 := tyOk_of (by kernel_rfl) (z := dV (.nilf)) (by kernel_rfl) rfl rfl rfl (.inr rfl)
def ti55 : TI := ⟨.func #[29, 3, 57] #[4] false, 1, 8, [.nilf]⟩
theorem ty55 : TyOk Try.prog 55 ti55 := tyOk_of (by kernel_rfl) (z := dV (.nilf)) (by kernel_rfl) rfl rfl rfl (.inr rfl)
def ti56 : TI := ⟨.struct #[⟨"Op", 3, 0, false, "", "", 0⟩, ⟨"A", 3, 1, false, "", "", 8⟩, ⟨"B", 3, 2, false, "", "", 16⟩, ⟨"N", 48, 3, false, "", "", 24⟩], 4, 32, [.int .i64 0, .int .i64 0, .int .i64 0, .int .u32 0]⟩
theorem ty56 : TyOk Try.prog 56 ti56 := tyOk_of (by kernel_rfl) (z := .agg #[dV (.int .i64 0), dV (.int .i64 0), dV (.int .i64 0), dV (.int .u32 0)]) (by kernel_rfl) rfl rfl rfl (.inl rfl)
def ti57 : TI := ⟨.struct #[⟨"Op", 3, 0, false, "", "", 0⟩, ⟨"A", 3, 1, false, "", "", 8⟩, ⟨"B", 3, 2, false, "", "", 16⟩, ⟨"N", 48, 3, false, "", "", 24⟩], 4, 32, [.int .i64 0, .int .i64 0, .int .i64 0, .int .u32 0]⟩
theorem ty57 : TyOk Try.prog 57 ti57 := tyOk_of (by kernel_rfl) (z := .agg #[dV (.int .i64 0), dV (.int .i64 0), dV (.int .i64 0), dV (.int .u32 0)]) (by kernel_rfl) rfl rfl rfl (.inl rfl)
def ti58 : TI := ⟨.slice 3, 1, 24, [.nsl]⟩
theorem ty58 : TyOk Try.prog 58 ti58 := tyOk_of (by kernel_rfl) (z := dV (.nsl)) (by kernel_rfl) rfl rfl rfl (.inr rfl)
def ti60 : TI := ⟨.func #[29, 3] #[58, 4] false, 1, 8, [.nilf]⟩
theorem ty60 : TyOk Try.prog 60 ti60 := tyOk_of (by kernel_rfl) (z := dV (.nilf)) (by kernel_rfl) rfl rfl rfl (.inr rfl)
def ti61 : TI := ⟨.func #[32] #[3] false, 1, 8, [.nilf]⟩
theorem ty61 : TyOk Try.prog 61 ti61 := tyOk_of (by kernel_rfl) (z := dV (.nilf)) (by kernel_rfl) rfl rfl rfl (.inr rfl)
def ti62 : TI := ⟨.func #[24, 3, 3] #[4] false, 1, 8, [.nilf]⟩
theorem ty62 : TyOk Try.prog 62 ti62 := tyOk_of (by kernel_rfl) (z := dV (.nilf)) (by kernel_rfl) rfl rfl rfl (.inr rfl)
def ti63 : TI := ⟨.func #[24, 3, 32, 3] #[4] false, 1, 8, [.nilf]⟩
theorem ty63 : TyOk Try.prog 63 ti63 := tyOk_of (by kernel_rfl) (z := dV (.nilf)) (by kernel_rfl) rfl rfl rfl (.inr rfl)
def ti64 : TI := ⟨.pointer 71, 1, 8, [.nilp]⟩
theorem ty64 : TyOk Try.prog 64 ti64 := tyOk_of (by kernel_rfl) (z := dV (.nilp)) (by kernel_rfl) rfl rfl rfl (.inr rfl)
def ti65 : TI := ⟨.slice 48, 1, 24, [.nsl]⟩
theorem ty65 : TyOk Try.prog 65 ti65 := tyOk_of (by kernel_rfl) (z := dV (.nsl)) (by kernel_rfl) rfl rfl rfl (.inr rfl)
def ti66 : TI := ⟨.struct #[⟨"F", 3, 0, false, "", "", 0⟩, ⟨"At", 3, 1, false, "", "", 8⟩, ⟨"L", 65, 2, false, "", "", 16⟩], 3, 40, [.int .i64 0, .int .i64 0, .nsl]⟩
theorem ty66 : TyOk Try.prog 66 ti66 := tyOk_of (by kernel_rfl) (z := .agg #[dV (.int .i64 0), dV (.int .i64 0), dV (.nsl)]) (by kernel_rfl) rfl rfl rfl (.inl rfl)
def ti67 : TI := ⟨.struct #[⟨"F", 3, 0, false, "", "", 0⟩, ⟨"At", 3, 1, false, "", "", 8⟩, ⟨"L", 65, 2, false, "", "", 16⟩], 3, 40, [.int .i64 0, .int .i64 0, .nsl]⟩
theorem ty67 : TyOk Try.prog 67 ti67 := tyOk_of (by kernel_rfl) (z := .agg #[dV (.int .i64 0), dV (.int .i64 0), dV (.nsl)]) (by kernel_rfl) rfl rfl rfl (.inl rfl)
def ti68 : TI := ⟨.slice 67, 1, 24, [.nsl]⟩
theorem ty68 : TyOk Try.prog 68 ti68 := tyOk_of (by kernel_rfl) (z := dV (.nsl)) (by kernel_rfl) rfl rfl rfl (.inr rfl)
def ti69 : TI := ⟨.slice 5, 1, 24, [.nsl]⟩
theorem ty69 : TyOk Try.prog 69 ti69 := tyOk_of (by kernel_rfl) (z := dV (.nsl)) (by kernel_rfl) rfl rfl rfl (.inr rfl)
def ti70 : TI := ⟨.struct #[⟨"S", 29, 0, false, "", "", 0⟩, ⟨"In", 9, 2, false, "", "", 32⟩, ⟨"Read", 3, 3, false, "", "", 48⟩, ⟨"Mem", 65, 4, false, "", "", 56⟩, ⟨"Out", 69, 5, false, "", "", 80⟩, ⟨"Steps", 3, 6, false, "", "", 104⟩, ⟨"End", 3, 7, false, "", "", 112⟩, ⟨"Calls", 68, 8, false, "", "", 120⟩], 9, 144, [.int .i64 0, .nsl, .str [], .int .i64 0, .nsl, .nsl, .int .i64 0, .int .i64 0, .nsl]⟩
theorem ty70 : TyOk Try.prog 70 ti70 := tyOk_of (by kernel_rfl) (z := .agg #[dV (.int .i64 0), dV (.nsl), dV (.str []), dV (.int .i64 0), dV (.nsl), dV (.nsl), dV (.int .i64 0), dV (.int .i64 0), dV (.nsl)]) (by kernel_rfl) rfl rfl rfl (.inl rfl)
def ti71 : TI := ⟨.struct #[⟨"S", 29, 0, false, "", "", 0⟩, ⟨"In", 9, 2, false, "", "", 32⟩, ⟨"Read", 3, 3, false, "", "", 48⟩, ⟨"Mem", 65, 4, false, "", "", 56⟩, ⟨"Out", 69, 5, false, "", "", 80⟩, ⟨"Steps", 3, 6, false, "", "", 104⟩, ⟨"End", 3, 7, false, "", "", 112⟩, ⟨"Calls", 68, 8, false, "", "", 120⟩], 9, 144, [.int .i64 0, .nsl, .str [], .int .i64 0, .nsl, .nsl, .int .i64 0, .int .i64 0, .nsl]⟩
theorem ty71 : TyOk Try.prog 71 ti71 := tyOk_of (by kernel_rfl) (z := .agg #[dV (.int .i64 0), dV (.nsl), dV (.str []), dV (.int .i64 0), dV (.nsl), dV (.nsl), dV (.int .i64 0), dV (.int .i64 0), dV (.nsl)]) (by kernel_rfl) rfl rfl rfl (.inl rfl)
def ti72 : TI := ⟨.struct #[⟨"word", 4, 0, false, "", "seedcorn/lower", 0⟩, ⟨"code", 35, 1, false, "", "seedcorn/lower", 8⟩], 2, 32, [.bool false, .nsl]⟩
theorem ty72 : TyOk Try.prog 72 ti72 := tyOk_of (by kernel_rfl) (z := .agg #[dV (.bool false), dV (.nsl)]) (by kernel_rfl) rfl rfl rfl (.inl rfl)
def ti73 : TI := ⟨.struct #[⟨"word", 4, 0, false, "", "seedcorn/lower", 0⟩, ⟨"code", 35, 1, false, "", "seedcorn/lower", 8⟩], 2, 32, [.bool false, .nsl]⟩
theorem ty73 : TyOk Try.prog 73 ti73 := tyOk_of (by kernel_rfl) (z := .agg #[dV (.bool false), dV (.nsl)]) (by kernel_rfl) rfl rfl rfl (.inl rfl)
def ti74 : TI := ⟨.func #[75] #[] false, 1, 8, [.nilf]⟩
theorem ty74 : TyOk Try.prog 74 ti74 := tyOk_of (by kernel_rfl) (z := dV (.nilf)) (by kernel_rfl) rfl rfl rfl (.inr rfl)
def ti75 : TI := ⟨.pointer 50, 1, 8, [.nilp]⟩
theorem ty75 : TyOk Try.prog 75 ti75 := tyOk_of (by kernel_rfl) (z := dV (.nilp)) (by kernel_rfl) rfl rfl rfl (.inr rfl)
def ti76 : TI := ⟨.func #[32] #[] false, 1, 8, [.nilf]⟩
theorem ty76 : TyOk Try.prog 76 ti76 := tyOk_of (by kernel_rfl) (z := dV (.nilf)) (by kernel_rfl) rfl rfl rfl (.inr rfl)
def ti78 : TI := ⟨.func #[29, 3, 57] #[3, 3, 4] false, 1, 8, [.nilf]⟩
theorem ty78 : TyOk Try.prog 78 ti78 := tyOk_of (by kernel_rfl) (z := dV (.nilf)) (by kernel_rfl) rfl rfl rfl (.inr rfl)
def ti79 : TI := ⟨.func #[57, 3] #[58] false, 1, 8, [.nilf]⟩
theorem ty79 : TyOk Try.prog 79 ti79 := tyOk_of (by kernel_rfl) (z := dV (.nilf)) (by kernel_rfl) rfl rfl rfl (.inr rfl)
def ti80 : TI := ⟨.func #[44] #[3] false, 1, 8, [.nilf]⟩
theorem ty80 : TyOk Try.prog 80 ti80 := tyOk_of (by kernel_rfl) (z := dV (.nilf)) (by kernel_rfl) rfl rfl rfl (.inr rfl)
def ti81 : TI := ⟨.func #[24, 3, 3, 3, 4] #[4] false, 1, 8, [.nilf]⟩
theorem ty81 : TyOk Try.prog 81 ti81 := tyOk_of (by kernel_rfl) (z := dV (.nilf)) (by kernel_rfl) rfl rfl rfl (.inr rfl)
def ti82 : TI := ⟨.func #[24, 3, 44, 3] #[4] false, 1, 8, [.nilf]⟩
theorem ty82 : TyOk Try.prog 82 ti82 := tyOk_of (by kernel_rfl) (z := dV (.nilf)) (by kernel_rfl) rfl rfl rfl (.inr rfl)
def ti83 : TI := ⟨.func #[3] #[] false, 1, 8, [.nilf]⟩
theorem ty83 : TyOk Try.prog 83 ti83 := tyOk_of (by kernel_rfl) (z := dV (.nilf)) (by kernel_rfl) rfl rfl rfl (.inr rfl)
def ti84 : TI := ⟨.func #[48] #[] false, 1, 8, [.nilf]⟩
theorem ty84 : TyOk Try.prog 84 ti84 := tyOk_of (by kernel_rfl) (z := dV (.nilf)) (by kernel_rfl) rfl rfl rfl (.inr rfl)
def ti85 : TI := ⟨.func #[] #[48] false, 1, 8, [.nilf]⟩
theorem ty85 : TyOk Try.prog 85 ti85 := tyOk_of (by kernel_rfl) (z := dV (.nilf)) (by kernel_rfl) rfl rfl rfl (.inr rfl)
def ti86 : TI := ⟨.int .i64, 1, 8, [.int .i64 0]⟩
theorem ty86 : TyOk Try.prog 86 ti86 := tyOk_of (by kernel_rfl) (z := dV (.int .i64 0)) (by kernel_rfl) rfl rfl rfl (.inr rfl)
def ti88 : TI := ⟨.func #[3, 48, 48] #[48, 86] false, 1, 8, [.nilf]⟩
theorem ty88 : TyOk Try.prog 88 ti88 := tyOk_of (by kernel_rfl) (z := dV (.nilf)) (by kernel_rfl) rfl rfl rfl (.inr rfl)
def ti89 : TI := ⟨.pointer 73, 1, 8, [.nilp]⟩
theorem ty89 : TyOk Try.prog 89 ti89 := tyOk_of (by kernel_rfl) (z := dV (.nilp)) (by kernel_rfl) rfl rfl rfl (.inr rfl)
def ti90 : TI := ⟨.func #[35] #[] true, 1, 8, [.nilf]⟩
theorem ty90 : TyOk Try.prog 90 ti90 := tyOk_of (by kernel_rfl) (z := dV (.nilf)) (by kernel_rfl) rfl rfl rfl (.inr rfl)
def ti91 : TI := ⟨.func #[92] #[] false, 1, 8, [.nilf]⟩
theorem ty91 : TyOk Try.prog 91 ti91 := tyOk_of (by kernel_rfl) (z := dV (.nilf)) (by kernel_rfl) rfl rfl rfl (.inr rfl)
def ti92 : TI := ⟨.pointer 46, 1, 8, [.nilp]⟩
theorem ty92 : TyOk Try.prog 92 ti92 := tyOk_of (by kernel_rfl) (z := dV (.nilp)) (by kernel_rfl) rfl rfl rfl (.inr rfl)
def ti93 : TI := ⟨.int .u64, 1, 8, [.int .u64 0]⟩
theorem ty93 : TyOk Try.prog 93 ti93 := tyOk_of (by kernel_rfl) (z := dV (.int .u64 0)) (by kernel_rfl) rfl rfl rfl (.inr rfl)
def ti94 : TI := ⟨.func #[3, 48, 48] #[48] false, 1, 8, [.nilf]⟩
theorem ty94 : TyOk Try.prog 94 ti94 := tyOk_of (by kernel_rfl) (z := dV (.nilf)) (by kernel_rfl) rfl rfl rfl (.inr rfl)
def ti95 : TI := ⟨.func #[4] #[48] false, 1, 8, [.nilf]⟩
theorem ty95 : TyOk Try.prog 95 ti95 := tyOk_of (by kernel_rfl) (z := dV (.nilf)) (by kernel_rfl) rfl rfl rfl (.inr rfl)
def ti96 : TI := ⟨.func #[3] #[1] false, 1, 8, [.nilf]⟩
theorem ty96 : TyOk Try.prog 96 ti96 := tyOk_of (by kernel_rfl) (z := dV (.nilf)) (by kernel_rfl) rfl rfl rfl (.inr rfl)
def ti97 : TI := ⟨.func #[48] #[58] false, 1, 8, [.nilf]⟩
theorem ty97 : TyOk Try.prog 97 ti97 := tyOk_of (by kernel_rfl) (z := dV (.nilf)) (by kernel_rfl) rfl rfl rfl (.inr rfl)
def ti98 : TI := ⟨.func #[58] #[48] false, 1, 8, [.nilf]⟩
theorem ty98 : TyOk Try.prog 98 ti98 := tyOk_of (by kernel_rfl) (z := dV (.nilf)) (by kernel_rfl) rfl rfl rfl (.inr rfl)
def ti99 : TI := ⟨.func #[] #[9] false, 1, 8, [.nilf]⟩
theorem ty99 : TyOk Try.prog 99 ti99 := tyOk_of (by kernel_rfl) (z := dV (.nilf)) (by kernel_rfl) rfl rfl rfl (.inr rfl)
def ti100 : TI := ⟨.struct #[⟨"_interface", 17, 0, false, "", "runtime", 0⟩, ⟨"concrete", 17, 1, false, "", "runtime", 8⟩, ⟨"asserted", 17, 2, false, "", "runtime", 16⟩, ⟨"missingMethod", 9, 3, false, "", "runtime", 24⟩], 4, 40, [.nilp, .nilp, .nilp, .str []]⟩
theorem ty100 : TyOk Try.prog 100 ti100 := tyOk_of (by kernel_rfl) (z := .agg #[dV (.nilp), dV (.nilp), dV (.nilp), dV (.str [])]) (by kernel_rfl) rfl rfl rfl (.inl rfl)
def ti101 : TI := ⟨.struct #[⟨"_interface", 17, 0, false, "", "runtime", 0⟩, ⟨"concrete", 17, 1, false, "", "runtime", 8⟩, ⟨"asserted", 17, 2, false, "", "runtime", 16⟩, ⟨"missingMethod", 9, 3, false, "", "runtime", 24⟩], 4, 40, [.nilp, .nilp, .nilp, .str []]⟩
theorem ty101 : TyOk Try.prog 101 ti101 := tyOk_of (by kernel_rfl) (z := .agg #[dV (.nilp), dV (.nilp), dV (.nilp), dV (.str [])]) (by kernel_rfl) rfl rfl rfl (.inl rfl)
def ti102 : TI := ⟨.array 0 16, 0, 0, []⟩
theorem ty102 : TyOk Try.prog 102 ti102 := tyOk_of (by kernel_rfl) (z := .agg #[]) (by kernel_rfl) rfl rfl rfl (.inl rfl)
def ti103 : TI := ⟨.struct #[⟨"_", 102, 0, false, "", "runtime", 0⟩], 0, 0, []⟩
theorem ty103 : TyOk Try.prog 103 ti103 := tyOk_of (by kernel_rfl) (z := .agg #[]) (by kernel_rfl) rfl rfl rfl (.inl rfl)
def ti104 : TI := ⟨.struct #[⟨"_", 102, 0, false, "", "runtime", 0⟩], 0, 0, []⟩
theorem ty104 : TyOk Try.prog 104 ti104 := tyOk_of (by kernel_rfl) (z := .agg #[]) (by kernel_rfl) rfl rfl rfl (.inl rfl)
def ti105 : TI := ⟨.func #[] #[3] false, 1, 8, [.nilf]⟩
theorem ty105 : TyOk Try.prog 105 ti105 := tyOk_of (by kernel_rfl) (z := dV (.nilf)) (by kernel_rfl) rfl rfl rfl (.inr rfl)
def ti106 : TI := ⟨.int .u8, 1, 1, [.int .u8 0]⟩
theorem ty106 : TyOk Try.prog 106 ti106 := tyOk_of (by kernel_rfl) (z := dV (.int .u8 0)) (by kernel_rfl) rfl rfl rfl (.inr rfl)
def ti107 : TI := ⟨.int .u8, 1, 1, [.int .u8 0]⟩
theorem ty107 : TyOk Try.prog 107 ti107 := tyOk_of (by kernel_rfl) (z := dV (.int .u8 0)) (by kernel_rfl) rfl rfl rfl (.inr rfl)
def ti108 : TI := ⟨.func #[114, 114] #[4] false, 1, 8, [.nilf]⟩
theorem ty108 : TyOk Try.prog 108 ti108 := tyOk_of (by kernel_rfl) (z := dV (.nilf)) (by kernel_rfl) rfl rfl rfl (.inr rfl)
def ti109 : TI := ⟨.pointer 5, 1, 8, [.nilp]⟩
theorem ty109 : TyOk Try.prog 109 ti109 := tyOk_of (by kernel_rfl) (z := dV (.nilp)) (by kernel_rfl) rfl rfl rfl (.inr rfl)
def ti110 : TI := ⟨.int .i32, 1, 4, [.int .i32 0]⟩
theorem ty110 : TyOk Try.prog 110 ti110 := tyOk_of (by kernel_rfl) (z := dV (.int .i32 0)) (by kernel_rfl) rfl rfl rfl (.inr rfl)
def ti111 : TI := ⟨.int .i32, 1, 4, [.int .i32 0]⟩
theorem ty111 : TyOk Try.prog 111 ti111 := tyOk_of (by kernel_rfl) (z := dV (.int .i32 0)) (by kernel_rfl) rfl rfl rfl (.inr rfl)
def ti112 : TI := ⟨.struct #[⟨"Size_", 12, 0, false, "", "", 0⟩, ⟨"PtrBytes", 12, 1, false, "", "", 8⟩, ⟨"Hash", 48, 2, false, "", "", 16⟩, ⟨"TFlag", 106, 3, false, "", "", 20⟩, ⟨"Align_", 5, 4, false, "", "", 21⟩, ⟨"FieldAlign_", 5, 5, false, "", "", 22⟩, ⟨"Kind_", 107, 6, false, "", "", 23⟩, ⟨"Equal", 108, 7, false, "", "", 24⟩, ⟨"GCData", 109, 8, false, "", "", 32⟩, ⟨"Str", 110, 9, false, "", "", 40⟩, ⟨"PtrToThis", 111, 10, false, "", "", 44⟩], 11, 48, [.int .u64 0, .int .u64 0, .int .u32 0, .int .u8 0, .int .u8 0, .int .u8 0, .int .u8 0, .nilf, .nilp, .int .i32 0, .int .i32 0]⟩
theorem ty112 : TyOk Try.prog 112 ti112 := tyOk_of (by kernel_rfl) (z := .agg #[dV (.int .u64 0), dV (.int .u64 0), dV (.int .u32 0), dV (.int .u8 0), dV (.int .u8 0), dV (.int .u8 0), dV (.int .u8 0), dV (.nilf), dV (.nilp), dV (.int .i32 0), dV (.int .i32 0)]) (by kernel_rfl) rfl rfl rfl (.inl rfl)
def ti113 : TI := ⟨.struct #[⟨"Size_", 12, 0, false, "", "", 0⟩, ⟨"PtrBytes", 12, 1, false, "", "", 8⟩, ⟨"Hash", 48, 2, false, "", "", 16⟩, ⟨"TFlag", 106, 3, false, "", "", 20⟩, ⟨"Align_", 5, 4, false, "", "", 21⟩, ⟨"FieldAlign_", 5, 5, false, "", "", 22⟩, ⟨"Kind_", 107, 6, false, "", "", 23⟩, ⟨"Equal", 108, 7, false, "", "", 24⟩, ⟨"GCData", 109, 8, false, "", "", 32⟩, ⟨"Str", 110, 9, false, "", "", 40⟩, ⟨"PtrToThis", 111, 10, false, "", "", 44⟩], 11, 48, [.int .u64 0, .int .u64 0, .int .u32 0, .int .u8 0, .int .u8 0, .int .u8 0, .int .u8 0, .nilf, .nilp, .int .i32 0, .int .i32 0]⟩
theorem ty113 : TyOk Try.prog 113 ti113 := tyOk_of (by kernel_rfl) (z := .agg #[dV (.int .u64 0), dV (.int .u64 0), dV (.int .u32 0), dV (.int .u8 0), dV (.int .u8 0), dV (.int .u8 0), dV (.int .u8 0), dV (.nilf), dV (.nilp), dV (.int .i32 0), dV (.int .i32 0)]) (by kernel_rfl) rfl rfl rfl (.inl rfl)
def ti114 : TI := ⟨.unsafePointer, 1, 8, [.nilp]⟩
theorem ty114 : TyOk Try.prog 114 ti114 := tyOk_of (by kernel_rfl) (z := dV (.nilp)) (by kernel_rfl) rfl rfl rfl (.inr rfl)
def Tt : Nat → TI := tabOf [(1, ti1), (2, ti2), (3, ti3), (4, ti4), (5, ti5), (6, ti6), (7, ti7), (8, ti8), (9, ti9), (10, ti10), (11, ti11), (12, ti12), (13, ti13), (14, ti14), (15, ti15), (16, ti16), (17, ti17), (18, ti18), (19, ti19), (20, ti20), (21, ti21), (22, ti22), (23, ti23), (24, ti24), (25, ti25), (26, ti26), (27, ti27), (28, ti28), (29, ti29), (30, ti30), (31, ti31), (32, ti32), (33, ti33), (34, ti34), (35, ti35), (36, ti36), (37, ti37), (38, ti38), (39, ti39), (40, ti40), (41, ti41), (42, ti42), (43, ti43), (44, ti44), (45, ti45), (46, ti46), (47, ti47), (48, ti48), (49, ti49), (50, ti50), (51, ti51), (52, ti52), (53, ti53), (54, ti54), (55, ti55), (56, ti56), (57, ti57), (58, ti58), (60, ti60), (61, ti61), (62, ti62), (63, ti63), (64, ti64), (65, ti65), (66, ti66), (67, ti67), (68, ti68), (69, ti69), (70, ti70), (71, ti71), (72, ti72), (73, ti73), (74, ti74), (75, ti75), (76, ti76), (78, ti78), (79, ti79), (80, ti80), (81, ti81), (82, ti82), (83, ti83), (84, ti84), (85, ti85), (86, ti86), (88, ti88), (89, ti89), (90, ti90), (91, ti91), (92, ti92), (93, ti93), (94, ti94), (95, ti95), (96, ti96), (97, ti97), (98, ti98), (99, ti99), (100, ti100), (101, ti101), (102, ti102), (103, ti103), (104, ti104), (105, ti105), (106, ti106), (107, ti107), (108, ti108), (109, ti109), (110, ti110), (111, ti111), (112, ti112), (113, ti113), (114, ti114)]
theorem Tt_ok : TabOk Try.prog Tt := tabOk_of_list (List.forall_mem_cons.2 ⟨ty1, List.forall_mem_cons.2 ⟨ty2, List.forall_mem_cons.2 ⟨ty3, List.forall_mem_cons.2 ⟨ty4, List.forall_mem_cons.2 ⟨ty5, List.forall_mem_cons.2 ⟨ty6, List.forall_mem_cons.2 ⟨ty7, List.forall_mem_cons.2 ⟨ty8, List.forall_mem_cons.2 ⟨ty9, List.forall_mem_cons.2 ⟨ty10, List.forall_mem_cons.2 ⟨ty11, List.forall_mem_cons.2 ⟨ty12, List.forall_mem_cons.2 ⟨ty13, List.forall_mem_cons.2 ⟨ty14, List.forall_mem_cons.2 ⟨ty15, List.forall_mem_cons.2 ⟨ty16, List.forall_mem_cons.2 ⟨ty17, List.forall_mem_cons.2 ⟨ty18, List.forall_mem_cons.2 ⟨ty19, List.forall_mem_cons.2 ⟨ty20, List.forall_mem_cons.2 ⟨ty21, List.forall_mem_cons.2 ⟨ty22, List.forall_mem_cons.2 ⟨ty23, List.forall_mem_cons.2 ⟨ty24, List.forall_mem_cons.2 ⟨ty25, List.forall_mem_cons.2 ⟨ty26, List.forall_mem_cons.2 ⟨ty27, List.forall_mem_cons.2 ⟨ty28, List.forall_mem_cons.2 ⟨ty29, List.forall_mem_cons.2 ⟨ty30, List.forall_mem_cons.2 ⟨ty31, List.forall_mem_cons.2 ⟨ty32, List.forall_mem_cons.2 ⟨ty33, List.forall_mem_cons.2 ⟨ty34, List.forall_mem_cons.2 ⟨ty35, List.forall_mem_cons.2 ⟨ty36, List.forall_mem_cons.2 ⟨ty37, List.forall_mem_cons.2 ⟨ty38, List.forall_mem_cons.2 ⟨ty39, List.forall_mem_cons.2 ⟨ty40, List.forall_mem_cons.2 ⟨ty41, List.forall_mem_cons.2 ⟨ty42, List.forall_mem_cons.2 ⟨ty43, List.forall_mem_cons.2 ⟨ty44, List.forall_mem_cons.2 ⟨ty45, List.forall_mem_cons.2 ⟨ty46, List.forall_mem_cons.2 ⟨ty47, List.forall_mem_cons.2 ⟨ty48, List.forall_mem_cons.2 ⟨ty49, List.forall_mem_cons.2 ⟨ty50, List.forall_mem_cons.2 ⟨ty51, List.forall_mem_cons.2 ⟨ty52, List.forall_mem_cons.2 ⟨ty53, List.forall_mem_cons.2 ⟨ty54, List.forall_mem_cons.2 ⟨ty55, List.forall_mem_cons.2 ⟨ty56, List.forall_mem_cons.2 ⟨ty57, List.forall_mem_cons.2 ⟨ty58, List.forall_mem_cons.2 ⟨ty60, List.forall_mem_cons.2 ⟨ty61, List.forall_mem_cons.2 ⟨ty62, List.forall_mem_cons.2 ⟨ty63, List.forall_mem_cons.2 ⟨ty64, List.forall_mem_cons.2 ⟨ty65, List.forall_mem_cons.2 ⟨ty66, List.forall_mem_cons.2 ⟨ty67, List.forall_mem_cons.2 ⟨ty68, List.forall_mem_cons.2 ⟨ty69, List.forall_mem_cons.2 ⟨ty70, List.forall_mem_cons.2 ⟨ty71, List.forall_mem_cons.2 ⟨ty72, List.forall_mem_cons.2 ⟨ty73, List.forall_mem_cons.2 ⟨ty74, List.forall_mem_cons.2 ⟨ty75, List.forall_mem_cons.2 ⟨ty76, List.forall_mem_cons.2 ⟨ty78, List.forall_mem_cons.2 ⟨ty79, List.forall_mem_cons.2 ⟨ty80, List.forall_mem_cons.2 ⟨ty81, List.forall_mem_cons.2 ⟨ty82, List.forall_mem_cons.2 ⟨ty83, List.forall_mem_cons.2 ⟨ty84, List.forall_mem_cons.2 ⟨ty85, List.forall_mem_cons.2 ⟨ty86, List.forall_mem_cons.2 ⟨ty88, List.forall_mem_cons.2 ⟨ty89, List.forall_mem_cons.2 ⟨ty90, List.forall_mem_cons.2 ⟨ty91, List.forall_mem_cons.2 ⟨ty92, List.forall_mem_cons.2 ⟨ty93, List.forall_mem_cons.2 ⟨ty94, List.forall_mem_cons.2 ⟨ty95, List.forall_mem_cons.2 ⟨ty96, List.forall_mem_cons.2 ⟨ty97, List.forall_mem_cons.2 ⟨ty98, List.forall_mem_cons.2 ⟨ty99, List.forall_mem_cons.2 ⟨ty100, List.forall_mem_cons.2 ⟨ty101, List.forall_mem_cons.2 ⟨ty102, List.forall_mem_cons.2 ⟨ty103, List.forall_mem_cons.2 ⟨ty104, List.forall_mem_cons.2 ⟨ty105, List.forall_mem_cons.2 ⟨ty106, List.forall_mem_cons.2 ⟨ty107, List.forall_mem_cons.2 ⟨ty108, List.forall_mem_cons.2 ⟨ty109, List.forall_mem_cons.2 ⟨ty110, List.forall_mem_cons.2 ⟨ty111, List.forall_mem_cons.2 ⟨ty112, List.forall_mem_cons.2 ⟨ty113, List.forall_mem_cons.2 ⟨ty114, fun _ h => by cases h⟩⟩⟩⟩⟩⟩⟩⟩⟩⟩⟩⟩⟩⟩⟩⟩⟩⟩⟩⟩⟩⟩⟩⟩⟩⟩⟩⟩⟩⟩⟩⟩⟩⟩⟩⟩⟩⟩⟩⟩⟩⟩⟩⟩⟩⟩⟩⟩⟩⟩⟩⟩⟩⟩⟩⟩⟩⟩⟩⟩⟩⟩⟩⟩⟩⟩⟩⟩⟩⟩⟩⟩⟩⟩⟩⟩⟩⟩⟩⟩⟩⟩⟩⟩⟩⟩⟩⟩⟩⟩⟩⟩⟩⟩⟩⟩⟩⟩⟩⟩⟩⟩⟩⟩⟩⟩⟩⟩⟩⟩⟩)
theorem mixed : Try.prog.follows .mixedOrders = true := by kernel_rfl
@[go_sem] theorem Tt_1 : Tt 1 = ⟨.func #[] #[] false, 1, 8, [.nilf]⟩ := Eq.trans rfl rfl
@[go_sem] theorem okSl_1 : okSl Tt 1 = false := Eq.trans rfl rfl
@[go_sem] theorem Tt_2 : Tt 2 = ⟨.int .i64, 1, 8, [.int .i64 0]⟩ := Eq.trans rfl rfl
@[go_sem] theorem okSl_2 : okSl Tt 2 = false := Eq.trans rfl rfl
@[go_sem] theorem Tt_3 : Tt 3 = ⟨.int .i64, 1, 8, [.int .i64 0]⟩ := Eq.trans rfl rfl
@[go_sem] theorem okSl_3 : okSl Tt 3 = false := Eq.trans rfl rfl
@[go_sem] theorem Tt_4 : Tt 4 = ⟨.bool, 1, 1, [.bool false]⟩ := Eq.trans rfl rfl
@[go_sem] theorem okSl_4 : okSl Tt 4 = false := Eq.trans rfl rfl
@[go_sem] theorem Tt_5 : Tt 5 = ⟨.int .u8, 1, 1, [.int .u8 0]⟩ := Eq.trans rfl rfl
@[go_sem] theorem okSl_5 : okSl Tt 5 = false := Eq.trans rfl rfl
@[go_sem] theorem Tt_6 : Tt 6 = ⟨.int .u8, 1, 1, [.int .u8 0]⟩ := Eq.trans rfl rfl
@[go_sem] theorem okSl_6 : okSl Tt 6 = false := Eq.trans rfl rfl
@[go_sem] theorem Tt_7 : Tt 7 = ⟨.struct #[⟨"x", 2, 0, false, "", "runtime", 0⟩, ⟨"y", 3, 1, false, "", "runtime", 8⟩, ⟨"signed", 4, 2, false, "", "runtime", 16⟩, ⟨"code", 6, 3, false, "", "runtime", 17⟩], 4, 24, [.int .i64 0, .int .i64 0, .bool false, .int .u8 0]⟩ := Eq.trans rfl rfl
@[go_sem] theorem okSl_7 : okSl Tt 7 = false := Eq.trans rfl rfl
@[go_sem] theorem okSt_7 : okSt Tt 7 = true := Eq.trans rfl rfl
@[go_sem] theorem Tt_8 : Tt 8 = ⟨.struct #[⟨"x", 2, 0, false, "", "runtime", 0⟩, ⟨"y", 3, 1, false, "", "runtime", 8⟩, ⟨"signed", 4, 2, false, "", "runtime", 16⟩, ⟨"code", 6, 3, false, "", "runtime", 17⟩], 4, 24, [.int .i64 0, .int .i64 0, .bool false, .int .u8 0]⟩ := Eq.trans rfl rfl
@[go_sem] theorem okSl_8 : okSl Tt 8 = false := Eq.trans rfl rfl
@[go_sem] theorem okSt_8 : okSt Tt 8 = true := Eq.trans rfl rfl
@[go_sem] theorem Tt_9 : Tt 9 = ⟨.string, 1, 16, [.str []]⟩ := Eq.trans rfl rfl
@[go_sem] theorem okSl_9 : okSl Tt 9 = false := Eq.trans rfl rfl
@[go_sem] theorem Tt_10 : Tt 10 = ⟨.string, 1, 16, [.str []]⟩ := Eq.trans rfl rfl
@[go_sem] theorem okSl_10 : okSl Tt 10 = false := Eq.trans rfl rfl
@[go_sem] theorem Tt_11 : Tt 11 = ⟨.string, 1, 16, [.str []]⟩ := Eq.trans rfl rfl
@[go_sem] theorem okSl_11 : okSl Tt 11 = false := Eq.trans rfl rfl
@[go_sem] theorem Tt_12 : Tt 12 = ⟨.int .u64, 1, 8, [.int .u64 0]⟩ := Eq.trans rfl rfl
@[go_sem] theorem okSl_12 : okSl Tt 12 = false := Eq.trans rfl rfl
@[go_sem] theorem Tt_13 : Tt 13 = ⟨.struct #[⟨"msg", 9, 0, false, "", "runtime", 0⟩, ⟨"addr", 12, 1, false, "", "runtime", 16⟩], 2, 24, [.str [], .int .u64 0]⟩ := Eq.trans rfl rfl
@[go_sem] theorem okSl_13 : okSl Tt 13 = false := Eq.trans rfl rfl
@[go_sem] theorem okSt_13 : okSt Tt 13 = true := Eq.trans rfl rfl
@[go_sem] theorem Tt_14 : Tt 14 = ⟨.struct #[⟨"msg", 9, 0, false, "", "runtime", 0⟩, ⟨"addr", 12, 1, false, "", "runtime", 16⟩], 2, 24, [.str [], .int .u64 0]⟩ := Eq.trans rfl rfl
@[go_sem] theorem okSl_14 : okSl Tt 14 = false := Eq.trans rfl rfl
@[go_sem] theorem okSt_14 : okSt Tt 14 = true := Eq.trans rfl rfl
@[go_sem] theorem Tt_15 : Tt 15 = ⟨.pointer 101, 1, 8, [.nilp]⟩ := Eq.trans rfl rfl
@[go_sem] theorem okSl_15 : okSl Tt 15 = false := Eq.trans rfl rfl
@[go_sem] theorem Tt_16 : Tt 16 = ⟨.pointer 104, 1, 8, [.nilp]⟩ := Eq.trans rfl rfl
@[go_sem] theorem okSl_16 : okSl Tt 16 = false := Eq.trans rfl rfl
@[go_sem] theorem Tt_17 : Tt 17 = ⟨.pointer 113, 1, 8, [.nilp]⟩ := Eq.trans rfl rfl
@[go_sem] theorem okSl_17 : okSl Tt 17 = false := Eq.trans rfl rfl
@[go_sem] theorem Tt_18 : Tt 18 = ⟨.struct #[⟨"typ", 17, 0, false, "", "internal/runtime/maps", 0⟩], 1, 8, [.nilp]⟩ := Eq.trans rfl rfl
@[go_sem] theorem okSl_18 : okSl Tt 18 = false := Eq.trans rfl rfl
@[go_sem] theorem okSt_18 : okSt Tt 18 = true := Eq.trans rfl rfl
@[go_sem] theorem Tt_19 : Tt 19 = ⟨.struct #[⟨"typ", 17, 0, false, "", "internal/runtime/maps", 0⟩], 1, 8, [.nilp]⟩ := Eq.trans rfl rfl
@[go_sem] theorem okSl_19 : okSl Tt 19 = false := Eq.trans rfl rfl
@[go_sem] theorem okSt_19 : okSt Tt 19 = true := Eq.trans rfl rfl
@[go_sem] theorem Tt_20 : Tt 20 = ⟨.interface #[], 1, 16, [.nili]⟩ := Eq.trans rfl rfl
@[go_sem] theorem okSl_20 : okSl Tt 20 = false := Eq.trans rfl rfl
@[go_sem] theorem Tt_21 : Tt 21 = ⟨.int .i32, 1, 4, [.int .i32 0]⟩ := Eq.trans rfl rfl
@[go_sem] theorem okSl_21 : okSl Tt 21 = false := Eq.trans rfl rfl
@[go_sem] theorem Tt_22 : Tt 22 = ⟨.slice 34, 1, 24, [.nsl]⟩ := Eq.trans rfl rfl
@[go_sem] theorem elem_22 : elemTI Tt 22 = ⟨.struct #[⟨"Params", 3, 0, false, "", "", 0⟩, ⟨"Slots", 3, 1, false, "", "", 8⟩, ⟨"First", 3, 2, false, "", "", 16⟩, ⟨"Word", 4, 3, false, "", "", 24⟩, ⟨"Body", 32, 4, false, "", "", 32⟩], 5, 56, [.int .i64 0, .int .i64 0, .int .i64 0, .bool false, .nsl]⟩ := Eq.trans rfl rfl
@[go_sem] theorem okSl_22 : okSl Tt 22 = true := Eq.trans rfl rfl
@[go_sem] theorem Tt_23 : Tt 23 = ⟨.struct #[⟨"Words", 3, 0, false, "", "", 0⟩, ⟨"Funcs", 22, 1, false, "", "", 8⟩], 2, 32, [.int .i64 0, .nsl]⟩ := Eq.trans rfl rfl
@[go_sem] theorem okSl_23 : okSl Tt 23 = false := Eq.trans rfl rfl
@[go_sem] theorem okSt_23 : okSt Tt 23 = true := Eq.trans rfl rfl
@[go_sem] theorem Tt_24 : Tt 24 = ⟨.struct #[⟨"Words", 3, 0, false, "", "", 0⟩, ⟨"Funcs", 22, 1, false, "", "", 8⟩], 2, 32, [.int .i64 0, .nsl]⟩ := Eq.trans rfl rfl
@[go_sem] theorem okSl_24 : okSl Tt 24 = false := Eq.trans rfl rfl
@[go_sem] theorem okSt_24 : okSt Tt 24 = true := Eq.trans rfl rfl
@[go_sem] theorem Tt_25 : Tt 25 = ⟨.func #[24, 9] #[4] false, 1, 8, [.nilf]⟩ := Eq.trans rfl rfl
@[go_sem] theorem okSl_25 : okSl Tt 25 = false := Eq.trans rfl rfl
@[go_sem] theorem Tt_26 : Tt 26 = ⟨.func #[] #[4] false, 1, 8, [.nilf]⟩ := Eq.trans rfl rfl
@[go_sem] theorem okSl_26 : okSl Tt 26 = false := Eq.trans rfl rfl
@[go_sem] theorem Tt_27 : Tt 27 = ⟨.slice 37, 1, 24, [.nsl]⟩ := Eq.trans rfl rfl
@[go_sem] theorem elem_27 : elemTI Tt 27 = ⟨.struct #[⟨"Params", 3, 0, false, "", "", 0⟩, ⟨"Slots", 3, 1, false, "", "", 8⟩, ⟨"First", 3, 2, false, "", "", 16⟩, ⟨"Word", 4, 3, false, "", "", 24⟩, ⟨"Code", 35, 4, false, "", "", 32⟩], 5, 56, [.int .i64 0, .int .i64 0, .int .i64 0, .bool false, .nsl]⟩ := Eq.trans rfl rfl
@[go_sem] theorem okSl_27 : okSl Tt 27 = true := Eq.trans rfl rfl
@[go_sem] theorem Tt_28 : Tt 28 = ⟨.struct #[⟨"Words", 3, 0, false, "", "", 0⟩, ⟨"Funcs", 27, 1, false, "", "", 8⟩], 2, 32, [.int .i64 0, .nsl]⟩ := Eq.trans rfl rfl
@[go_sem] theorem okSl_28 : okSl Tt 28 = false := Eq.trans rfl rfl
@[go_sem] theorem okSt_28 : okSt Tt 28 = true := Eq.trans rfl rfl
@[go_sem] theorem Tt_29 : Tt 29 = ⟨.struct #[⟨"Words", 3, 0, false, "", "", 0⟩, ⟨"Funcs", 27, 1, false, "", "", 8⟩], 2, 32, [.int .i64 0, .nsl]⟩ := Eq.trans rfl rfl
@[go_sem] theorem okSl_29 : okSl Tt 29 = false := Eq.trans rfl rfl
@[go_sem] theorem okSt_29 : okSt Tt 29 = true := Eq.trans rfl rfl
@[go_sem] theorem Tt_30 : Tt 30 = ⟨.func #[24] #[29] false, 1, 8, [.nilf]⟩ := Eq.trans rfl rfl
@[go_sem] theorem okSl_30 : okSl Tt 30 = false := Eq.trans rfl rfl
@[go_sem] theorem Tt_31 : Tt 31 = ⟨.func #[29] #[4] false, 1, 8, [.nilf]⟩ := Eq.trans rfl rfl
@[go_sem] theorem okSl_31 : okSl Tt 31 = false := Eq.trans rfl rfl
@[go_sem] theorem Tt_32 : Tt 32 = ⟨.slice 46, 1, 24, [.nsl]⟩ := Eq.trans rfl rfl
@[go_sem] theorem elem_32 : elemTI Tt 32 = ⟨.struct #[⟨"Kind", 3, 0, false, "", "", 0⟩, ⟨"Slot", 3, 1, false, "", "", 8⟩, ⟨"Size", 3, 2, false, "", "", 16⟩, ⟨"E", 44, 3, false, "", "", 24⟩, ⟨"Then", 32, 4, false, "", "", 48⟩, ⟨"Else", 32, 5, false, "", "", 72⟩], 6, 96, [.int .i64 0, .int .i64 0, .int .i64 0, .nsl, .nsl, .nsl]⟩ := Eq.trans rfl rfl
@[go_sem] theorem okSl_32 : okSl Tt 32 = true := Eq.trans rfl rfl
@[go_sem] theorem Tt_33 : Tt 33 = ⟨.struct #[⟨"Params", 3, 0, false, "", "", 0⟩, ⟨"Slots", 3, 1, false, "", "", 8⟩, ⟨"First", 3, 2, false, "", "", 16⟩, ⟨"Word", 4, 3, false, "", "", 24⟩, ⟨"Body", 32, 4, false, "", "", 32⟩], 5, 56, [.int .i64 0, .int .i64 0, .int .i64 0, .bool false, .nsl]⟩ := Eq.trans rfl rfl
@[go_sem] theorem okSl_33 : okSl Tt 33 = false := Eq.trans rfl rfl
@[go_sem] theorem okSt_33 : okSt Tt 33 = true := Eq.trans rfl rfl
@[go_sem] theorem Tt_34 : Tt 34 = ⟨.struct #[⟨"Params", 3, 0, false, "", "", 0⟩, ⟨"Slots", 3, 1, false, "", "", 8⟩, ⟨"First", 3, 2, false, "", "", 16⟩, ⟨"Word", 4, 3, false, "", "", 24⟩, ⟨"Body", 32, 4, false, "", "", 32⟩], 5, 56, [.int .i64 0, .int .i64 0, .int .i64 0, .bool false, .nsl]⟩ := Eq.trans rfl rfl
@[go_sem] theorem okSl_34 : okSl Tt 34 = false := Eq.trans rfl rfl
@[go_sem] theorem okSt_34 : okSt Tt 34 = true := Eq.trans rfl rfl
@[go_sem] theorem Tt_35 : Tt 35 = ⟨.slice 57, 1, 24, [.nsl]⟩ := Eq.trans rfl rfl
@[go_sem] theorem elem_35 : elemTI Tt 35 = ⟨.struct #[⟨"Op", 3, 0, false, "", "", 0⟩, ⟨"A", 3, 1, false, "", "", 8⟩, ⟨"B", 3, 2, false, "", "", 16⟩, ⟨"N", 48, 3, false, "", "", 24⟩], 4, 32, [.int .i64 0, .int .i64 0, .int .i64 0, .int .u32 0]⟩ := Eq.trans rfl rfl
@[go_sem] theorem okSl_35 : okSl Tt 35 = true := Eq.trans rfl rfl
@[go_sem] theorem Tt_36 : Tt 36 = ⟨.struct #[⟨"Params", 3, 0, false, "", "", 0⟩, ⟨"Slots", 3, 1, false, "", "", 8⟩, ⟨"First", 3, 2, false, "", "", 16⟩, ⟨"Word", 4, 3, false, "", "", 24⟩, ⟨"Code", 35, 4, false, "", "", 32⟩], 5, 56, [.int .i64 0, .int .i64 0, .int .i64 0, .bool false, .nsl]⟩ := Eq.trans rfl rfl
@[go_sem] theorem okSl_36 : okSl Tt 36 = false := Eq.trans rfl rfl
@[go_sem] theorem okSt_36 : okSt Tt 36 = true := Eq.trans rfl rfl
@[go_sem] theorem Tt_37 : Tt 37 = ⟨.struct #[⟨"Params", 3, 0, false, "", "", 0⟩, ⟨"Slots", 3, 1, false, "", "", 8⟩, ⟨"First", 3, 2, false, "", "", 16⟩, ⟨"Word", 4, 3, false, "", "", 24⟩, ⟨"Code", 35, 4, false, "", "", 32⟩], 5, 56, [.int .i64 0, .int .i64 0, .int .i64 0, .bool false, .nsl]⟩ := Eq.trans rfl rfl
@[go_sem] theorem okSl_37 : okSl Tt 37 = false := Eq.trans rfl rfl
@[go_sem] theorem okSt_37 : okSt Tt 37 = true := Eq.trans rfl rfl
@[go_sem] theorem Tt_38 : Tt 38 = ⟨.func #[24] #[4] false, 1, 8, [.nilf]⟩ := Eq.trans rfl rfl
@[go_sem] theorem okSl_38 : okSl Tt 38 = false := Eq.trans rfl rfl
@[go_sem] theorem Tt_39 : Tt 39 = ⟨.func #[24] #[3] false, 1, 8, [.nilf]⟩ := Eq.trans rfl rfl
@[go_sem] theorem okSl_39 : okSl Tt 39 = false := Eq.trans rfl rfl
@[go_sem] theorem Tt_40 : Tt 40 = ⟨.struct #[⟨"End", 3, 0, false, "", "", 0⟩, ⟨"Out", 9, 1, false, "", "", 8⟩, ⟨"Steps", 3, 2, false, "", "", 24⟩], 3, 32, [.int .i64 0, .str [], .int .i64 0]⟩ := Eq.trans rfl rfl
@[go_sem] theorem okSl_40 : okSl Tt 40 = false := Eq.trans rfl rfl
@[go_sem] theorem okSt_40 : okSt Tt 40 = true := Eq.trans rfl rfl
@[go_sem] theorem Tt_41 : Tt 41 = ⟨.struct #[⟨"End", 3, 0, false, "", "", 0⟩, ⟨"Out", 9, 1, false, "", "", 8⟩, ⟨"Steps", 3, 2, false, "", "", 24⟩], 3, 32, [.int .i64 0, .str [], .int .i64 0]⟩ := Eq.trans rfl rfl
@[go_sem] theorem okSl_41 : okSl Tt 41 = false := Eq.trans rfl rfl
@[go_sem] theorem okSt_41 : okSt Tt 41 = true := Eq.trans rfl rfl
@[go_sem] theorem Tt_42 : Tt 42 = ⟨.func #[29, 9, 3] #[41] false, 1, 8, [.nilf]⟩ := Eq.trans rfl rfl
@[go_sem] theorem okSl_42 : okSl Tt 42 = false := Eq.trans rfl rfl
@[go_sem] theorem Tt_43 : Tt 43 = ⟨.func #[3, 32] #[24] true, 1, 8, [.nilf]⟩ := Eq.trans rfl rfl
@[go_sem] theorem okSl_43 : okSl Tt 43 = false := Eq.trans rfl rfl
@[go_sem] theorem Tt_44 : Tt 44 = ⟨.slice 50, 1, 24, [.nsl]⟩ := Eq.trans rfl rfl
@[go_sem] theorem elem_44 : elemTI Tt 44 = ⟨.struct #[⟨"Kind", 3, 0, false, "", "", 0⟩, ⟨"Op", 3, 1, false, "", "", 8⟩, ⟨"Num", 48, 2, false, "", "", 16⟩, ⟨"Slot", 3, 3, false, "", "", 24⟩, ⟨"Size", 3, 4, false, "", "", 32⟩, ⟨"Kids", 44, 5, false, "", "", 40⟩], 6, 64, [.int .i64 0, .int .i64 0, .int .u32 0, .int .i64 0, .int .i64 0, .nsl]⟩ := Eq.trans rfl rfl
@[go_sem] theorem okSl_44 : okSl Tt 44 = true := Eq.trans rfl rfl
@[go_sem] theorem Tt_45 : Tt 45 = ⟨.struct #[⟨"Kind", 3, 0, false, "", "", 0⟩, ⟨"Slot", 3, 1, false, "", "", 8⟩, ⟨"Size", 3, 2, false, "", "", 16⟩, ⟨"E", 44, 3, false, "", "", 24⟩, ⟨"Then", 32, 4, false, "", "", 48⟩, ⟨"Else", 32, 5, false, "", "", 72⟩], 6, 96, [.int .i64 0, .int .i64 0, .int .i64 0, .nsl, .nsl, .nsl]⟩ := Eq.trans rfl rfl
@[go_sem] theorem okSl_45 : okSl Tt 45 = false := Eq.trans rfl rfl
@[go_sem] theorem okSt_45 : okSt Tt 45 = true := Eq.trans rfl rfl
@[go_sem] theorem Tt_46 : Tt 46 = ⟨.struct #[⟨"Kind", 3, 0, false, "", "", 0⟩, ⟨"Slot", 3, 1, false, "", "", 8⟩, ⟨"Size", 3, 2, false, "", "", 16⟩, ⟨"E", 44, 3, false, "", "", 24⟩, ⟨"Then", 32, 4, false, "", "", 48⟩, ⟨"Else", 32, 5, false, "", "", 72⟩], 6, 96, [.int .i64 0, .int .i64 0, .int .i64 0, .nsl, .nsl, .nsl]⟩ := Eq.trans rfl rfl
@[go_sem] theorem okSl_46 : okSl Tt 46 = false := Eq.trans rfl rfl
@[go_sem] theorem okSt_46 : okSt Tt 46 = true := Eq.trans rfl rfl
@[go_sem] theorem Tt_47 : Tt 47 = ⟨.func #[50] #[46] false, 1, 8, [.nilf]⟩ := Eq.trans rfl rfl
@[go_sem] theorem okSl_47 : okSl Tt 47 = false := Eq.trans rfl rfl
@[go_sem] theorem Tt_48 : Tt 48 = ⟨.int .u32, 1, 4, [.int .u32 0]⟩ := Eq.trans rfl rfl
@[go_sem] theorem okSl_48 : okSl Tt 48 = false := Eq.trans rfl rfl
@[go_sem] theorem Tt_49 : Tt 49 = ⟨.struct #[⟨"Kind", 3, 0, false, "", "", 0⟩, ⟨"Op", 3, 1, false, "", "", 8⟩, ⟨"Num", 48, 2, false, "", "", 16⟩, ⟨"Slot", 3, 3, false, "", "", 24⟩, ⟨"Size", 3, 4, false, "", "", 32⟩, ⟨"Kids", 44, 5, false, "", "", 40⟩], 6, 64, [.int .i64 0, .int .i64 0, .int .u32 0, .int .i64 0, .int .i64 0, .nsl]⟩ := Eq.trans rfl rfl
@[go_sem] theorem okSl_49 : okSl Tt 49 = false := Eq.trans rfl rfl
@[go_sem] theorem okSt_49 : okSt Tt 49 = true := Eq.trans rfl rfl
@[go_sem] theorem Tt_50 : Tt 50 = ⟨.struct #[⟨"Kind", 3, 0, false, "", "", 0⟩, ⟨"Op", 3, 1, false, "", "", 8⟩, ⟨"Num", 48, 2, false, "", "", 16⟩, ⟨"Slot", 3, 3, false, "", "", 24⟩, ⟨"Size", 3, 4, false, "", "", 32⟩, ⟨"Kids", 44, 5, false, "", "", 40⟩], 6, 64, [.int .i64 0, .int .i64 0, .int .u32 0, .int .i64 0, .int .i64 0, .nsl]⟩ := Eq.trans rfl rfl
@[go_sem] theorem okSl_50 : okSl Tt 50 = false := Eq.trans rfl rfl
@[go_sem] theorem okSt_50 : okSt Tt 50 = true := Eq.trans rfl rfl
@[go_sem] theorem Tt_51 : Tt 51 = ⟨.func #[3, 50, 50] #[50] false, 1, 8, [.nilf]⟩ := Eq.trans rfl rfl
@[go_sem] theorem okSl_51 : okSl Tt 51 = false := Eq.trans rfl rfl
@[go_sem] theorem Tt_52 : Tt 52 = ⟨.func #[48] #[50] false, 1, 8, [.nilf]⟩ := Eq.trans rfl rfl
@[go_sem] theorem okSl_52 : okSl Tt 52 = false := Eq.trans rfl rfl
@[go_sem] theorem Tt_53 : Tt 53 = ⟨.func #[24, 50] #[35] false, 1, 8, [.nilf]⟩ := Eq.trans rfl rfl
@[go_sem] theorem okSl_53 : okSl Tt 53 = false := Eq.trans rfl rfl
@[go_sem] theorem Tt_54 : Tt 54 = ⟨.func #[34] #[35] false, 1, 8, [.nilf]⟩ := Eq.trans rfl rfl
@[go_sem] theorem okSl_54 : okSl Tt 54 = false := Eq.trans rfl rfl
@[go_sem] theorem Tt_55 : Tt 55 = ⟨.func #[29, 3, 57] #[4] false, 1, 8, [.nilf]⟩ := Eq.trans rfl rfl
@[go_sem] theorem okSl_55 : okSl Tt 55 = false := Eq.trans rfl rfl
@[go_sem] theorem Tt_56 : Tt 56 = ⟨.struct #[⟨"Op", 3, 0, false, "", "", 0⟩, ⟨"A", 3, 1, false, "", "", 8⟩, ⟨"B", 3, 2, false, "", "", 16⟩, ⟨"N", 48, 3, false, "", "", 24⟩], 4, 32, [.int .i64 0, .int .i64 0, .int .i64 0, .int .u32 0]⟩ := Eq.trans rfl rfl
@[go_sem] theorem okSl_56 : okSl Tt 56 = false := Eq.trans rfl rfl
@[go_sem] theorem okSt_56 : okSt Tt 56 = true := Eq.trans rfl rfl
@[go_sem] theorem Tt_57 : Tt 57 = ⟨.struct #[⟨"Op", 3, 0, false, "", "", 0⟩, ⟨"A", 3, 1, false, "", "", 8⟩, ⟨"B", 3, 2, false, "", "", 16⟩, ⟨"N", 48, 3, false, "", "", 24⟩], 4, 32, [.int .i64 0, .int .i64 0, .int .i64 0, .int .u32 0]⟩ := Eq.trans rfl rfl
@[go_sem] theorem okSl_57 : okSl Tt 57 = false := Eq.trans rfl rfl
@[go_sem] theorem okSt_57 : okSt Tt 57 = true := Eq.trans rfl rfl
@[go_sem] theorem Tt_58 : Tt 58 = ⟨.slice 3, 1, 24, [.nsl]⟩ := Eq.trans rfl rfl
@[go_sem] theorem elem_58 : elemTI Tt 58 = ⟨.int .i64, 1, 8, [.int .i64 0]⟩ := Eq.trans rfl rfl
@[go_sem] theorem okSl_58 : okSl Tt 58 = true := Eq.trans rfl rfl
@[go_sem] theorem Tt_60 : Tt 60 = ⟨.func #[29, 3] #[58, 4] false, 1, 8, [.nilf]⟩ := Eq.trans rfl rfl
@[go_sem] theorem okSl_60 : okSl Tt 60 = false := Eq.trans rfl rfl
@[go_sem] theorem Tt_61 : Tt 61 = ⟨.func #[32] #[3] false, 1, 8, [.nilf]⟩ := Eq.trans rfl rfl
@[go_sem] theorem okSl_61 : okSl Tt 61 = false := Eq.trans rfl rfl
@[go_sem] theorem Tt_62 : Tt 62 = ⟨.func #[24, 3, 3] #[4] false, 1, 8, [.nilf]⟩ := Eq.trans rfl rfl
@[go_sem] theorem okSl_62 : okSl Tt 62 = false := Eq.trans rfl rfl
@[go_sem] theorem Tt_63 : Tt 63 = ⟨.func #[24, 3, 32, 3] #[4] false, 1, 8, [.nilf]⟩ := Eq.trans rfl rfl
@[go_sem] theorem okSl_63 : okSl Tt 63 = false := Eq.trans rfl rfl
@[go_sem] theorem Tt_64 : Tt 64 = ⟨.pointer 71, 1, 8, [.nilp]⟩ := Eq.trans rfl rfl
@[go_sem] theorem okSl_64 : okSl Tt 64 = false := Eq.trans rfl rfl
@[go_sem] theorem Tt_65 : Tt 65 = ⟨.slice 48, 1, 24, [.nsl]⟩ := Eq.trans rfl rfl
@[go_sem] theorem elem_65 : elemTI Tt 65 = ⟨.int .u32, 1, 4, [.int .u32 0]⟩ := Eq.trans rfl rfl
@[go_sem] theorem okSl_65 : okSl Tt 65 = true := Eq.trans rfl rfl
@[go_sem] theorem Tt_66 : Tt 66 = ⟨.struct #[⟨"F", 3, 0, false, "", "", 0⟩, ⟨"At", 3, 1, false, "", "", 8⟩, ⟨"L", 65, 2, false, "", "", 16⟩], 3, 40, [.int .i64 0, .int .i64 0, .nsl]⟩ := Eq.trans rfl rfl
@[go_sem] theorem okSl_66 : okSl Tt 66 = false := Eq.trans rfl rfl
@[go_sem] theorem okSt_66 : okSt Tt 66 = true := Eq.trans rfl rfl
@[go_sem] theorem Tt_67 : Tt 67 = ⟨.struct #[⟨"F", 3, 0, false, "", "", 0⟩, ⟨"At", 3, 1, false, "", "", 8⟩, ⟨"L", 65, 2, false, "", "", 16⟩], 3, 40, [.int .i64 0, .int .i64 0, .nsl]⟩ := Eq.trans rfl rfl
@[go_sem] theorem okSl_67 : okSl Tt 67 = false := Eq.trans rfl rfl
@[go_sem] theorem okSt_67 : okSt Tt 67 = true := Eq.trans rfl rfl
@[go_sem] theorem Tt_68 : Tt 68 = ⟨.slice 67, 1, 24, [.nsl]⟩ := Eq.trans rfl rfl
@[go_sem] theorem elem_68 : elemTI Tt 68 = ⟨.struct #[⟨"F", 3, 0, false, "", "", 0⟩, ⟨"At", 3, 1, false, "", "", 8⟩, ⟨"L", 65, 2, false, "", "", 16⟩], 3, 40, [.int .i64 0, .int .i64 0, .nsl]⟩ := Eq.trans rfl rfl
@[go_sem] theorem okSl_68 : okSl Tt 68 = true := Eq.trans rfl rfl
@[go_sem] theorem Tt_69 : Tt 69 = ⟨.slice 5, 1, 24, [.nsl]⟩ := Eq.trans rfl rfl
@[go_sem] theorem elem_69 : elemTI Tt 69 = ⟨.int .u8, 1, 1, [.int .u8 0]⟩ := Eq.trans rfl rfl
@[go_sem] theorem okSl_69 : okSl Tt 69 = true := Eq.trans rfl rfl
@[go_sem] theorem Tt_70 : Tt 70 = ⟨.struct #[⟨"S", 29, 0, false, "", "", 0⟩, ⟨"In", 9, 2, false, "", "", 32⟩, ⟨"Read", 3, 3, false, "", "", 48⟩, ⟨"Mem", 65, 4, false, "", "", 56⟩, ⟨"Out", 69, 5, false, "", "", 80⟩, ⟨"Steps", 3, 6, false, "", "", 104⟩, ⟨"End", 3, 7, false, "", "", 112⟩, ⟨"Calls", 68, 8, false, "", "", 120⟩], 9, 144, [.int .i64 0, .nsl, .str [], .int .i64 0, .nsl, .nsl, .int .i64 0, .int .i64 0, .nsl]⟩ := Eq.trans rfl rfl
@[go_sem] theorem okSl_70 : okSl Tt 70 = false := Eq.trans rfl rfl
@[go_sem] theorem okSt_70 : okSt Tt 70 = true := Eq.trans rfl rfl
@[go_sem] theorem Tt_71 : Tt 71 = ⟨.struct #[⟨"S", 29, 0, false, "", "", 0⟩, ⟨"In", 9, 2, false, "", "", 32⟩, ⟨"Read", 3, 3, false, "", "", 48⟩, ⟨"Mem", 65, 4, false, "", "", 56⟩, ⟨"Out", 69, 5, false, "", "", 80⟩, ⟨"Steps", 3, 6, false, "", "", 104⟩, ⟨"End", 3, 7, false, "", "", 112⟩, ⟨"Calls", 68, 8, false, "", "", 120⟩], 9, 144, [.int .i64 0, .nsl, .str [], .int .i64 0, .nsl, .nsl, .int .i64 0, .int .i64 0, .nsl]⟩ := Eq.trans rfl rfl
@[go_sem] theorem okSl_71 : okSl Tt 71 = false := Eq.trans rfl rfl
@[go_sem] theorem okSt_71 : okSt Tt 71 = true := Eq.trans rfl rfl
@[go_sem] theorem Tt_72 : Tt 72 = ⟨.struct #[⟨"word", 4, 0, false, "", "seedcorn/lower", 0⟩, ⟨"code", 35, 1, false, "", "seedcorn/lower", 8⟩], 2, 32, [.bool false, .nsl]⟩ := Eq.trans rfl rfl
@[go_sem] theorem okSl_72 : okSl Tt 72 = false := Eq.trans rfl rfl
@[go_sem] theorem okSt_72 : okSt Tt 72 = true := Eq.trans rfl rfl
@[go_sem] theorem Tt_73 : Tt 73 = ⟨.struct #[⟨"word", 4, 0, false, "", "seedcorn/lower", 0⟩, ⟨"code", 35, 1, false, "", "seedcorn/lower", 8⟩], 2, 32, [.bool false, .nsl]⟩ := Eq.trans rfl rfl
@[go_sem] theorem okSl_73 : okSl Tt 73 = false := Eq.trans rfl rfl
@[go_sem] theorem okSt_73 : okSt Tt 73 = true := Eq.trans rfl rfl
@[go_sem] theorem Tt_74 : Tt 74 = ⟨.func #[75] #[] false, 1, 8, [.nilf]⟩ := Eq.trans rfl rfl
@[go_sem] theorem okSl_74 : okSl Tt 74 = false := Eq.trans rfl rfl
@[go_sem] theorem Tt_75 : Tt 75 = ⟨.pointer 50, 1, 8, [.nilp]⟩ := Eq.trans rfl rfl
@[go_sem] theorem okSl_75 : okSl Tt 75 = false := Eq.trans rfl rfl
@[go_sem] theorem Tt_76 : Tt 76 = ⟨.func #[32] #[] false, 1, 8, [.nilf]⟩ := Eq.trans rfl rfl
@[go_sem] theorem okSl_76 : okSl Tt 76 = false := Eq.trans rfl rfl
@[go_sem] theorem Tt_78 : Tt 78 = ⟨.func #[29, 3, 57] #[3, 3, 4] false, 1, 8, [.nilf]⟩ := Eq.trans rfl rfl
@[go_sem] theorem okSl_78 : okSl Tt 78 = false := Eq.trans rfl rfl
@[go_sem] theorem Tt_79 : Tt 79 = ⟨.func #[57, 3] #[58] false, 1, 8, [.nilf]⟩ := Eq.trans rfl rfl
@[go_sem] theorem okSl_79 : okSl Tt 79 = false := Eq.trans rfl rfl
@[go_sem] theorem Tt_80 : Tt 80 = ⟨.func #[44] #[3] false, 1, 8, [.nilf]⟩ := Eq.trans rfl rfl
@[go_sem] theorem okSl_80 : okSl Tt 80 = false := Eq.trans rfl rfl
@[go_sem] theorem Tt_81 : Tt 81 = ⟨.func #[24, 3, 3, 3, 4] #[4] false, 1, 8, [.nilf]⟩ := Eq.trans rfl rfl
@[go_sem] theorem okSl_81 : okSl Tt 81 = false := Eq.trans rfl rfl
@[go_sem] theorem Tt_82 : Tt 82 = ⟨.func #[24, 3, 44, 3] #[4] false, 1, 8, [.nilf]⟩ := Eq.trans rfl rfl
@[go_sem] theorem okSl_82 : okSl Tt 82 = false := Eq.trans rfl rfl
@[go_sem] theorem Tt_83 : Tt 83 = ⟨.func #[3] #[] false, 1, 8, [.nilf]⟩ := Eq.trans rfl rfl
@[go_sem] theorem okSl_83 : okSl Tt 83 = false := Eq.trans rfl rfl
@[go_sem] theorem Tt_84 : Tt 84 = ⟨.func #[48] #[] false, 1, 8, [.nilf]⟩ := Eq.trans rfl rfl
@[go_sem] theorem okSl_84 : okSl Tt 84 = false := Eq.trans rfl rfl
@[go_sem] theorem Tt_85 : Tt 85 = ⟨.func #[] #[48] false, 1, 8, [.nilf]⟩ := Eq.trans rfl rfl
@[go_sem] theorem okSl_85 : okSl Tt 85 = false := Eq.trans rfl rfl
@[go_sem] theorem Tt_86 : Tt 86 = ⟨.int .i64, 1, 8, [.int .i64 0]⟩ := Eq.trans rfl rfl
@[go_sem] theorem okSl_86 : okSl Tt 86 = false := Eq.trans rfl rfl
@[go_sem] theorem Tt_88 : Tt 88 = ⟨.func #[3, 48, 48] #[48, 86] false, 1, 8, [.nilf]⟩ := Eq.trans rfl rfl
@[go_sem] theorem okSl_88 : okSl Tt 88 = false := Eq.trans rfl rfl
@[go_sem] theorem Tt_89 : Tt 89 = ⟨.pointer 73, 1, 8, [.nilp]⟩ := Eq.trans rfl rfl
@[go_sem] theorem okSl_89 : okSl Tt 89 = false := Eq.trans rfl rfl
@[go_sem] theorem Tt_90 : Tt 90 = ⟨.func #[35] #[] true, 1, 8, [.nilf]⟩ := Eq.trans rfl rfl
@[go_sem] theorem okSl_90 : okSl Tt 90 = false := Eq.trans rfl rfl
@[go_sem] theorem Tt_91 : Tt 91 = ⟨.func #[92] #[] false, 1, 8, [.nilf]⟩ := Eq.trans rfl rfl
@[go_sem] theorem okSl_91 : okSl Tt 91 = false := Eq.trans rfl rfl
@[go_sem] theorem Tt_92 : Tt 92 = ⟨.pointer 46, 1, 8, [.nilp]⟩ := Eq.trans rfl rfl
@[go_sem] theorem okSl_92 : okSl Tt 92 = false := Eq.trans rfl rfl
@[go_sem] theorem Tt_93 : Tt 93 = ⟨.int .u64, 1, 8, [.int .u64 0]⟩ := Eq.trans rfl rfl
@[go_sem] theorem okSl_93 : okSl Tt 93 = false := Eq.trans rfl rfl
@[go_sem] theorem Tt_94 : Tt 94 = ⟨.func #[3, 48, 48] #[48] false, 1, 8, [.nilf]⟩ := Eq.trans rfl rfl
@[go_sem] theorem okSl_94 : okSl Tt 94 = false := Eq.trans rfl rfl
@[go_sem] theorem Tt_95 : Tt 95 = ⟨.func #[4] #[48] false, 1, 8, [.nilf]⟩ := Eq.trans rfl rfl
@[go_sem] theorem okSl_95 : okSl Tt 95 = false := Eq.trans rfl rfl
@[go_sem] theorem Tt_96 : Tt 96 = ⟨.func #[3] #[1] false, 1, 8, [.nilf]⟩ := Eq.trans rfl rfl
@[go_sem] theorem okSl_96 : okSl Tt 96 = false := Eq.trans rfl rfl
@[go_sem] theorem Tt_97 : Tt 97 = ⟨.func #[48] #[58] false, 1, 8, [.nilf]⟩ := Eq.trans rfl rfl
@[go_sem] theorem okSl_97 : okSl Tt 97 = false := Eq.trans rfl rfl
@[go_sem] theorem Tt_98 : Tt 98 = ⟨.func #[58] #[48] false, 1, 8, [.nilf]⟩ := Eq.trans rfl rfl
@[go_sem] theorem okSl_98 : okSl Tt 98 = false := Eq.trans rfl rfl
@[go_sem] theorem Tt_99 : Tt 99 = ⟨.func #[] #[9] false, 1, 8, [.nilf]⟩ := Eq.trans rfl rfl
@[go_sem] theorem okSl_99 : okSl Tt 99 = false := Eq.trans rfl rfl
@[go_sem] theorem Tt_100 : Tt 100 = ⟨.struct #[⟨"_interface", 17, 0, false, "", "runtime", 0⟩, ⟨"concrete", 17, 1, false, "", "runtime", 8⟩, ⟨"asserted", 17, 2, false, "", "runtime", 16⟩, ⟨"missingMethod", 9, 3, false, "", "runtime", 24⟩], 4, 40, [.nilp, .nilp, .nilp, .str []]⟩ := Eq.trans rfl rfl
@[go_sem] theorem okSl_100 : okSl Tt 100 = false := Eq.trans rfl rfl
@[go_sem] theorem okSt_100 : okSt Tt 100 = true := Eq.trans rfl rfl
@[go_sem] theorem Tt_101 : Tt 101 = ⟨.struct #[⟨"_interface", 17, 0, false, "", "runtime", 0⟩, ⟨"concrete", 17, 1, false, "", "runtime", 8⟩, ⟨"asserted", 17, 2, false, "", "runtime", 16⟩, ⟨"missingMethod", 9, 3, false, "", "runtime", 24⟩], 4, 40, [.nilp, .nilp, .nilp, .str []]⟩ := Eq.trans rfl rfl
@[go_sem] theorem okSl_101 : okSl Tt 101 = false := Eq.trans rfl rfl
@[go_sem] theorem okSt_101 : okSt Tt 101 = true := Eq.trans rfl rfl
@[go_sem] theorem Tt_102 : Tt 102 = ⟨.array 0 16, 0, 0, []⟩ := Eq.trans rfl rfl
@[go_sem] theorem okSl_102 : okSl Tt 102 = false := Eq.trans rfl rfl
@[go_sem] theorem Tt_103 : Tt 103 = ⟨.struct #[⟨"_", 102, 0, false, "", "runtime", 0⟩], 0, 0, []⟩ := Eq.trans rfl rfl
@[go_sem] theorem okSl_103 : okSl Tt 103 = false := Eq.trans rfl rfl
@[go_sem] theorem okSt_103 : okSt Tt 103 = true := Eq.trans rfl rfl
@[go_sem] theorem Tt_104 : Tt 104 = ⟨.struct #[⟨"_", 102, 0, false, "", "runtime", 0⟩], 0, 0, []⟩ := Eq.trans rfl rfl
@[go_sem] theorem okSl_104 : okSl Tt 104 = false := Eq.trans rfl rfl
@[go_sem] theorem okSt_104 : okSt Tt 104 = true := Eq.trans rfl rfl
@[go_sem] theorem Tt_105 : Tt 105 = ⟨.func #[] #[3] false, 1, 8, [.nilf]⟩ := Eq.trans rfl rfl
@[go_sem] theorem okSl_105 : okSl Tt 105 = false := Eq.trans rfl rfl
@[go_sem] theorem Tt_106 : Tt 106 = ⟨.int .u8, 1, 1, [.int .u8 0]⟩ := Eq.trans rfl rfl
@[go_sem] theorem okSl_106 : okSl Tt 106 = false := Eq.trans rfl rfl
@[go_sem] theorem Tt_107 : Tt 107 = ⟨.int .u8, 1, 1, [.int .u8 0]⟩ := Eq.trans rfl rfl
@[go_sem] theorem okSl_107 : okSl Tt 107 = false := Eq.trans rfl rfl
@[go_sem] theorem Tt_108 : Tt 108 = ⟨.func #[114, 114] #[4] false, 1, 8, [.nilf]⟩ := Eq.trans rfl rfl
@[go_sem] theorem okSl_108 : okSl Tt 108 = false := Eq.trans rfl rfl
@[go_sem] theorem Tt_109 : Tt 109 = ⟨.pointer 5, 1, 8, [.nilp]⟩ := Eq.trans rfl rfl
@[go_sem] theorem okSl_109 : okSl Tt 109 = false := Eq.trans rfl rfl
@[go_sem] theorem Tt_110 : Tt 110 = ⟨.int .i32, 1, 4, [.int .i32 0]⟩ := Eq.trans rfl rfl
@[go_sem] theorem okSl_110 : okSl Tt 110 = false := Eq.trans rfl rfl
@[go_sem] theorem Tt_111 : Tt 111 = ⟨.int .i32, 1, 4, [.int .i32 0]⟩ := Eq.trans rfl rfl
@[go_sem] theorem okSl_111 : okSl Tt 111 = false := Eq.trans rfl rfl
@[go_sem] theorem Tt_112 : Tt 112 = ⟨.struct #[⟨"Size_", 12, 0, false, "", "", 0⟩, ⟨"PtrBytes", 12, 1, false, "", "", 8⟩, ⟨"Hash", 48, 2, false, "", "", 16⟩, ⟨"TFlag", 106, 3, false, "", "", 20⟩, ⟨"Align_", 5, 4, false, "", "", 21⟩, ⟨"FieldAlign_", 5, 5, false, "", "", 22⟩, ⟨"Kind_", 107, 6, false, "", "", 23⟩, ⟨"Equal", 108, 7, false, "", "", 24⟩, ⟨"GCData", 109, 8, false, "", "", 32⟩, ⟨"Str", 110, 9, false, "", "", 40⟩, ⟨"PtrToThis", 111, 10, false, "", "", 44⟩], 11, 48, [.int .u64 0, .int .u64 0, .int .u32 0, .int .u8 0, .int .u8 0, .int .u8 0, .int .u8 0, .nilf, .nilp, .int .i32 0, .int .i32 0]⟩ := Eq.trans rfl rfl
@[go_sem] theorem okSl_112 : okSl Tt 112 = false := Eq.trans rfl rfl
@[go_sem] theorem okSt_112 : okSt Tt 112 = true := Eq.trans rfl rfl
@[go_sem] theorem Tt_113 : Tt 113 = ⟨.struct #[⟨"Size_", 12, 0, false, "", "", 0⟩, ⟨"PtrBytes", 12, 1, false, "", "", 8⟩, ⟨"Hash", 48, 2, false, "", "", 16⟩, ⟨"TFlag", 106, 3, false, "", "", 20⟩, ⟨"Align_", 5, 4, false, "", "", 21⟩, ⟨"FieldAlign_", 5, 5, false, "", "", 22⟩, ⟨"Kind_", 107, 6, false, "", "", 23⟩, ⟨"Equal", 108, 7, false, "", "", 24⟩, ⟨"GCData", 109, 8, false, "", "", 32⟩, ⟨"Str", 110, 9, false, "", "", 40⟩, ⟨"PtrToThis", 111, 10, false, "", "", 44⟩], 11, 48, [.int .u64 0, .int .u64 0, .int .u32 0, .int .u8 0, .int .u8 0, .int .u8 0, .int .u8 0, .nilf, .nilp, .int .i32 0, .int .i32 0]⟩ := Eq.trans rfl rfl
@[go_sem] theorem okSl_113 : okSl Tt 113 = false := Eq.trans rfl rfl
@[go_sem] theorem okSt_113 : okSt Tt 113 = true := Eq.trans rfl rfl
@[go_sem] theorem Tt_114 : Tt 114 = ⟨.unsafePointer, 1, 8, [.nilp]⟩ := Eq.trans rfl rfl
@[go_sem] theorem okSl_114 : okSl Tt 114 = false := Eq.trans rfl rfl
end Go.Proofs.Ythengcpckdlpgaa
