/- Closed facts on the program's types and functions. No condition. -/
import Derived.Test.YtankoeffbdnffaaTPure
import Derived.Test.YtankoeffbdnffaaProg
namespace Go.Proofs.Ytankoeffbdnffaa
open Go Go.RowKit Go.Proofs.Kit Go.Proofs.Pure
set_option linter.unusedVariables false
set_option linter.unusedSimpArgs false
set_option maxRecDepth 100000
set_option maxHeartbeats 2000000

theorem mx : Try.prog.follows .mixedOrders = true := by kernel_rfl
theorem zz24 : ((Try.prog.info? 24).bind (·.zero)) = some (mkv true (List.replicate 32 [.int .u8 0]).flatten) := by kernel_rfl
theorem sz5 : (Try.prog.info? 5).map (·.size) = some 1 := by kernel_rfl
theorem zz36 : ((Try.prog.info? 36).bind (·.zero)) = some (mkv true (List.replicate 80 [.int .u8 0]).flatten) := by kernel_rfl
theorem tk5 : TK Try.prog 5 (kint .u8) := ⟨by kernel_rfl, by kernel_rfl⟩
theorem hb14 : hasBody Try.prog 14 := ⟨_, Try.func14, by kernel_rfl, by kernel_rfl⟩
theorem hb11 : hasBody Try.prog 11 := ⟨_, Try.func11, by kernel_rfl, by kernel_rfl⟩
theorem zz48 : ((Try.prog.info? 48).bind (·.zero)) = some (mkv true ([.pointer none] ++ ([.slice none 0 0] ++ []))) := by kernel_rfl
theorem tk36 : TK Try.prog 36 (karr 80 (kint .u8)) := ⟨by kernel_rfl, by kernel_rfl⟩
theorem sz46 : (Try.prog.info? 46).map (·.size) = some 1 := by kernel_rfl
theorem tkb46 (b : Nat) : TK Try.prog 46 (kbad b) := ⟨by kernel_rfl, by kernel_rfl⟩
theorem pt46 : Try.prog.underlying 46 = some (.pointer (Try.prog.pointee 46)) := by kernel_rfl
theorem ne18 : isNoEscape Try.prog 18 := ⟨_, Try.func18, by kernel_rfl, by kernel_rfl, by kernel_rfl, by kernel_rfl⟩
theorem hb17 : hasBody Try.prog 17 := ⟨_, Try.func17, by kernel_rfl, by kernel_rfl⟩
theorem sz33 : (Try.prog.info? 33).map (·.size) = some 1 := by kernel_rfl
theorem tkr33 (v : Value) : TK Try.prog 33 (kis v) := ⟨by kernel_rfl, by kernel_rfl⟩
theorem zz5 : ((Try.prog.info? 5).bind (·.zero)) = some (mkv false [.int .u8 0]) := by kernel_rfl
theorem ap5 : ApOk Try.prog 5 (kint .u8) [.int .u8 0] := ⟨by kernel_rfl, by kernel_rfl, by kernel_rfl⟩
theorem hb15 : hasBody Try.prog 15 := ⟨_, Try.func15, by kernel_rfl, by kernel_rfl⟩
theorem co5 : Try.prog.cellsOf 5 = 1 := by kernel_rfl
theorem hb16 : hasBody Try.prog 16 := ⟨_, Try.func16, by kernel_rfl, by kernel_rfl⟩
theorem hb9 : hasBody Try.prog 9 := ⟨_, Try.func9, by kernel_rfl, by kernel_rfl⟩
theorem hb10 : hasBody Try.prog 10 := ⟨_, Try.func10, by kernel_rfl, by kernel_rfl⟩
theorem tk24 : TK Try.prog 24 (karr 32 (kint .u8)) := ⟨by kernel_rfl, by kernel_rfl⟩
theorem hb12 : hasBody Try.prog 12 := ⟨_, Try.func12, by kernel_rfl, by kernel_rfl⟩
theorem hb7 : hasBody Try.prog 7 := ⟨_, Try.func7, by kernel_rfl, by kernel_rfl⟩
theorem eq5 : EqK Try.prog 5 (kint .u8) 1 := eq_int Try.underlying5
theorem eq24 : EqK Try.prog 24 (karr 32 (kint .u8)) 2 := eq_arr Try.underlying24 tk5 eq5
theorem hb6 : hasBody Try.prog 6 := ⟨_, Try.func6, by kernel_rfl, by kernel_rfl⟩

end Go.Proofs.Ytankoeffbdnffaa
