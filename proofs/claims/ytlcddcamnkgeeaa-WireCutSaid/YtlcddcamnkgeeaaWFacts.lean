/- Closed facts on the program's types and functions. No condition. -/
import Derived.Test.YtlcddcamnkgeeaaWPure
import Derived.Test.YtlcddcamnkgeeaaProg
namespace Go.Proofs.Ytlcddcamnkgeeaa
open Go Go.RowKit Go.Proofs.Kit Go.Proofs.Pure
set_option linter.unusedVariables false
set_option linter.unusedSimpArgs false
set_option maxRecDepth 100000
set_option maxHeartbeats 2000000

theorem mx : Try.prog.follows .mixedOrders = true := by kernel_rfl
theorem zz59 : ((Try.prog.info? 59).bind (·.zero)) = some (mkv true ([.slice none 0 0] ++ [])) := by kernel_rfl
theorem zz69 : ((Try.prog.info? 69).bind (·.zero)) = some (mkv false [.int .u32 0]) := by kernel_rfl
theorem sz69 : (Try.prog.info? 69).map (·.size) = some 1 := by kernel_rfl
theorem tk69 : TK Try.prog 69 (kint .u32) := ⟨by kernel_rfl, by kernel_rfl⟩
theorem sz23 : (Try.prog.info? 23).map (·.size) = some 1 := by kernel_rfl
theorem tkr23 (v : Value) : TK Try.prog 23 (kis v) := ⟨by kernel_rfl, by kernel_rfl⟩
theorem zz5 : ((Try.prog.info? 5).bind (·.zero)) = some (mkv false [.int .u8 0]) := by kernel_rfl
theorem sz5 : (Try.prog.info? 5).map (·.size) = some 1 := by kernel_rfl
theorem ap5 : ApOk Try.prog 5 (kint .u8) [.int .u8 0] := ⟨by kernel_rfl, by kernel_rfl, by kernel_rfl⟩
theorem hb43 : hasBody Try.prog 43 := ⟨_, Try.func43, by kernel_rfl, by kernel_rfl⟩
theorem zz9 : ((Try.prog.info? 9).bind (·.zero)) = some (mkv false [.string ⟨#[]⟩]) := by kernel_rfl
theorem sz9 : (Try.prog.info? 9).map (·.size) = some 1 := by kernel_rfl
theorem tk9 : TK Try.prog 9 kstr := ⟨by kernel_rfl, by kernel_rfl⟩
theorem by5 : ((Try.prog.info? 5).map (·.bytes)) = some 1 := by kernel_rfl
theorem hb44 : hasBody Try.prog 44 := ⟨_, Try.func44, by kernel_rfl, by kernel_rfl⟩
theorem tk23 : TK Try.prog 23 (ksl (kint .u8)) := ⟨by kernel_rfl, by kernel_rfl⟩
theorem hb32 : hasBody Try.prog 32 := ⟨_, Try.func32, by kernel_rfl, by kernel_rfl⟩
theorem zz101 : ((Try.prog.info? 101).bind (·.zero)) = some (mkv true ([.string ⟨#[]⟩] ++ ([.int .i64 0] ++ []))) := by kernel_rfl
theorem pl101 : (match Try.prog.underlying 101 with | some (.struct fs) => fs.toList.mapM (fun f => (Try.prog.info? f.type).map fun i => (f.offset, i.size)) | _ => none) = some [(0, 1), (1, 1)] := by kernel_rfl
theorem hb33 : hasBody Try.prog 33 := ⟨_, Try.func33, by kernel_rfl, by kernel_rfl⟩
theorem sz31 : (Try.prog.info? 31).map (·.size) = some 1 := by kernel_rfl
theorem tk31 : TK Try.prog 31 (kint .i64) := ⟨by kernel_rfl, by kernel_rfl⟩
theorem hb60 : hasBody Try.prog 60 := ⟨_, Try.func60, by kernel_rfl, by kernel_rfl⟩
theorem hb34 : hasBody Try.prog 34 := ⟨_, Try.func34, by kernel_rfl, by kernel_rfl⟩
theorem hb62 : hasBody Try.prog 62 := ⟨_, Try.func62, by kernel_rfl, by kernel_rfl⟩
theorem hb61 : hasBody Try.prog 61 := ⟨_, Try.func61, by kernel_rfl, by kernel_rfl⟩
theorem hb35 : hasBody Try.prog 35 := ⟨_, Try.func35, by kernel_rfl, by kernel_rfl⟩
theorem hb39 : hasBody Try.prog 39 := ⟨_, Try.func39, by kernel_rfl, by kernel_rfl⟩
theorem hb29 : hasBody Try.prog 29 := ⟨_, Try.func29, by kernel_rfl, by kernel_rfl⟩
theorem sz65 : (Try.prog.info? 65).map (·.size) = some 5 := by kernel_rfl
theorem sz62 : (Try.prog.info? 62).map (·.size) = some 1 := by kernel_rfl
theorem tk62 : TK Try.prog 62 (ksl (kint .u32)) := ⟨by kernel_rfl, by kernel_rfl⟩
theorem sz63 : (Try.prog.info? 63).map (·.size) = some 1 := by kernel_rfl
theorem tk63 : TK Try.prog 63 (ksl (karr 32 (kint .u8))) := ⟨by kernel_rfl, by kernel_rfl⟩
theorem hb30 : hasBody Try.prog 30 := ⟨_, Try.func30, by kernel_rfl, by kernel_rfl⟩
theorem tk65 : TK Try.prog 65 k_caballaw10_Item := ⟨by kernel_rfl, by kernel_rfl⟩
theorem sz3 : (Try.prog.info? 3).map (·.size) = some 1 := by kernel_rfl
theorem tk3 : TK Try.prog 3 (kint .i64) := ⟨by kernel_rfl, by kernel_rfl⟩
theorem hb55 : hasBody Try.prog 55 := ⟨_, Try.func55, by kernel_rfl, by kernel_rfl⟩
theorem hb56 : hasBody Try.prog 56 := ⟨_, Try.func56, by kernel_rfl, by kernel_rfl⟩
theorem sz72 : (Try.prog.info? 72).map (·.size) = some 32 := by kernel_rfl
theorem tk72 : TK Try.prog 72 (karr 32 (kint .u8)) := ⟨by kernel_rfl, by kernel_rfl⟩
theorem zz72 : ((Try.prog.info? 72).bind (·.zero)) = some (mkv true (List.replicate 32 [.int .u8 0]).flatten) := by kernel_rfl
theorem hb57 : hasBody Try.prog 57 := ⟨_, Try.func57, by kernel_rfl, by kernel_rfl⟩
theorem hb45 : hasBody Try.prog 45 := ⟨_, Try.func45, by kernel_rfl, by kernel_rfl⟩
theorem hb58 : hasBody Try.prog 58 := ⟨_, Try.func58, by kernel_rfl, by kernel_rfl⟩
theorem hb46 : hasBody Try.prog 46 := ⟨_, Try.func46, by kernel_rfl, by kernel_rfl⟩
theorem hb59 : hasBody Try.prog 59 := ⟨_, Try.func59, by kernel_rfl, by kernel_rfl⟩
theorem hb31 : hasBody Try.prog 31 := ⟨_, Try.func31, by kernel_rfl, by kernel_rfl⟩
theorem zz65 : ((Try.prog.info? 65).bind (·.zero)) = some (mkv true ([.int .i64 0] ++ ([.int .i64 0] ++ ([.slice none 0 0] ++ ([.string ⟨#[]⟩] ++ ([.slice none 0 0] ++ [])))))) := by kernel_rfl
theorem hb36 : hasBody Try.prog 36 := ⟨_, Try.func36, by kernel_rfl, by kernel_rfl⟩
theorem ap72 : ApOk Try.prog 72 (karr 32 (kint .u8)) (List.replicate 32 [.int .u8 0]).flatten := ⟨by kernel_rfl, by kernel_rfl, by kernel_rfl⟩
theorem hb63 : hasBody Try.prog 63 := ⟨_, Try.func63, by kernel_rfl, by kernel_rfl⟩
theorem hb37 : hasBody Try.prog 37 := ⟨_, Try.func37, by kernel_rfl, by kernel_rfl⟩
theorem ap69 : ApOk Try.prog 69 (kint .u32) [.int .u32 0] := ⟨by kernel_rfl, by kernel_rfl, by kernel_rfl⟩
theorem hb64 : hasBody Try.prog 64 := ⟨_, Try.func64, by kernel_rfl, by kernel_rfl⟩
theorem hb38 : hasBody Try.prog 38 := ⟨_, Try.func38, by kernel_rfl, by kernel_rfl⟩
theorem tk5 : TK Try.prog 5 (kint .u8) := ⟨by kernel_rfl, by kernel_rfl⟩
theorem eq5 : EqK Try.prog 5 (kint .u8) 1 := eq_int Try.underlying5
theorem eq72 : EqK Try.prog 72 (karr 32 (kint .u8)) 2 := eq_arr Try.underlying72 tk5 eq5
theorem hb40 : hasBody Try.prog 40 := ⟨_, Try.func40, by kernel_rfl, by kernel_rfl⟩
theorem hb41 : hasBody Try.prog 41 := ⟨_, Try.func41, by kernel_rfl, by kernel_rfl⟩
theorem hb42 : hasBody Try.prog 42 := ⟨_, Try.func42, by kernel_rfl, by kernel_rfl⟩

end Go.Proofs.Ytlcddcamnkgeeaa
