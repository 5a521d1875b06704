/- Closed facts on the program's types and functions. No condition. -/
import Derived.Test.YtankoeffbdnffaaDoorAPure
import Derived.Test.YtankoeffbdnffaaDoorProg
namespace Go.Proofs.YtankoeffbdnffaaDoor
open Go Go.RowKit Go.Proofs.Kit Go.Proofs.Pure
set_option linter.unusedVariables false
set_option linter.unusedSimpArgs false
set_option maxRecDepth 100000
set_option maxHeartbeats 2000000

theorem mx : Tryd.prog.follows .mixedOrders = true := by kernel_rfl
theorem zz23 : ((Tryd.prog.info? 23).bind (·.zero)) = some (mkv true (List.replicate 32 [.int .u8 0]).flatten) := by kernel_rfl
theorem sz5 : (Tryd.prog.info? 5).map (·.size) = some 1 := by kernel_rfl
theorem zz32 : ((Tryd.prog.info? 32).bind (·.zero)) = some (mkv true (List.replicate 80 [.int .u8 0]).flatten) := by kernel_rfl
theorem tk5 : TK Tryd.prog 5 (kint .u8) := ⟨by kernel_rfl, by kernel_rfl⟩
theorem hb11 : hasBody Tryd.prog 11 := ⟨_, Tryd.func11, by kernel_rfl, by kernel_rfl⟩
theorem hb12 : hasBody Tryd.prog 12 := ⟨_, Tryd.func12, by kernel_rfl, by kernel_rfl⟩
theorem zz40 : ((Tryd.prog.info? 40).bind (·.zero)) = some (mkv true ([.pointer none] ++ ([.slice none 0 0] ++ []))) := by kernel_rfl
theorem tk32 : TK Tryd.prog 32 (karr 80 (kint .u8)) := ⟨by kernel_rfl, by kernel_rfl⟩
theorem sz37 : (Tryd.prog.info? 37).map (·.size) = some 1 := by kernel_rfl
theorem tkb37 (b : Nat) : TK Tryd.prog 37 (kbad b) := ⟨by kernel_rfl, by kernel_rfl⟩
theorem pt37 : Tryd.prog.underlying 37 = some (.pointer (Tryd.prog.pointee 37)) := by kernel_rfl
theorem ne30 : isNoEscape Tryd.prog 30 := ⟨_, Tryd.func30, by kernel_rfl, by kernel_rfl, by kernel_rfl, by kernel_rfl⟩
theorem hb24 : hasBody Tryd.prog 24 := ⟨_, Tryd.func24, by kernel_rfl, by kernel_rfl⟩
theorem sz38 : (Tryd.prog.info? 38).map (·.size) = some 1 := by kernel_rfl
theorem tkr38 (v : Value) : TK Tryd.prog 38 (kis v) := ⟨by kernel_rfl, by kernel_rfl⟩
theorem zz5 : ((Tryd.prog.info? 5).bind (·.zero)) = some (mkv false [.int .u8 0]) := by kernel_rfl
theorem ap5 : ApOk Tryd.prog 5 (kint .u8) [.int .u8 0] := ⟨by kernel_rfl, by kernel_rfl, by kernel_rfl⟩
theorem hb13 : hasBody Tryd.prog 13 := ⟨_, Tryd.func13, by kernel_rfl, by kernel_rfl⟩
theorem co5 : Tryd.prog.cellsOf 5 = 1 := by kernel_rfl
theorem hb14 : hasBody Tryd.prog 14 := ⟨_, Tryd.func14, by kernel_rfl, by kernel_rfl⟩
theorem hb6 : hasBody Tryd.prog 6 := ⟨_, Tryd.func6, by kernel_rfl, by kernel_rfl⟩
theorem hb22 : hasBody Tryd.prog 22 := ⟨_, Tryd.func22, by kernel_rfl, by kernel_rfl⟩
theorem tk23 : TK Tryd.prog 23 (karr 32 (kint .u8)) := ⟨by kernel_rfl, by kernel_rfl⟩
theorem hb23 : hasBody Tryd.prog 23 := ⟨_, Tryd.func23, by kernel_rfl, by kernel_rfl⟩
theorem hb10 : hasBody Tryd.prog 10 := ⟨_, Tryd.func10, by kernel_rfl, by kernel_rfl⟩
theorem eq5 : EqK Tryd.prog 5 (kint .u8) 1 := eq_int Tryd.underlying5
theorem eq23 : EqK Tryd.prog 23 (karr 32 (kint .u8)) 2 := eq_arr Tryd.underlying23 tk5 eq5
theorem hb5 : hasBody Tryd.prog 5 := ⟨_, Tryd.func5, by kernel_rfl, by kernel_rfl⟩
theorem ap3 : ApOk Tryd.prog 3 (kint .i64) [.int .i64 0] := ⟨by kernel_rfl, by kernel_rfl, by kernel_rfl⟩
theorem sz3 : (Tryd.prog.info? 3).map (·.size) = some 1 := by kernel_rfl
theorem tk3 : TK Tryd.prog 3 (kint .i64) := ⟨by kernel_rfl, by kernel_rfl⟩
theorem hb15 : hasBody Tryd.prog 15 := ⟨_, Tryd.func15, by kernel_rfl, by kernel_rfl⟩
theorem hb16 : hasBody Tryd.prog 16 := ⟨_, Tryd.func16, by kernel_rfl, by kernel_rfl⟩
theorem zz3 : ((Tryd.prog.info? 3).bind (·.zero)) = some (mkv false [.int .i64 0]) := by kernel_rfl
theorem hb17 : hasBody Tryd.prog 17 := ⟨_, Tryd.func17, by kernel_rfl, by kernel_rfl⟩
theorem hb7 : hasBody Tryd.prog 7 := ⟨_, Tryd.func7, by kernel_rfl, by kernel_rfl⟩
theorem xc25 : isCompare Tryd.prog 25 := ⟨_, Tryd.func25, by kernel_rfl, by kernel_rfl, by kernel_rfl, by kernel_rfl⟩
theorem hb18 : hasBody Tryd.prog 18 := ⟨_, Tryd.func18, by kernel_rfl, by kernel_rfl⟩
theorem zz9 : ((Tryd.prog.info? 9).bind (·.zero)) = some (mkv false [.string ⟨#[]⟩]) := by kernel_rfl
theorem sz9 : (Tryd.prog.info? 9).map (·.size) = some 1 := by kernel_rfl
theorem zz64 : ((Tryd.prog.info? 64).bind (·.zero)) = some (mkv true ([.bool false] ++ ((List.replicate 8 [.int .u32 0]).flatten ++ ((List.replicate 64 [.int .u8 0]).flatten ++ ([.int .i64 0] ++ ([.int .u64 0] ++ [])))))) := by kernel_rfl
theorem pt71 : Tryd.prog.underlying 71 = some (.pointer (Tryd.prog.pointee 71)) := by kernel_rfl
theorem sz4 : (Tryd.prog.info? 4).map (·.size) = some 1 := by kernel_rfl
theorem tk4 : TK Tryd.prog 4 kbool := ⟨by kernel_rfl, by kernel_rfl⟩
theorem tk60 : TK Tryd.prog 60 (karr 8 (kint .u32)) := ⟨by kernel_rfl, by kernel_rfl⟩
theorem sz60 : (Tryd.prog.info? 60).map (·.size) = some 8 := by kernel_rfl
theorem hb31 : hasBody Tryd.prog 31 := ⟨_, Tryd.func31, by kernel_rfl, by kernel_rfl⟩
theorem tk9 : TK Tryd.prog 9 kstr := ⟨by kernel_rfl, by kernel_rfl⟩
theorem sz61 : (Tryd.prog.info? 61).map (·.size) = some 64 := by kernel_rfl
theorem zz74 : ((Tryd.prog.info? 74).bind (·.zero)) = some (mkv true (List.replicate 64 [.int .u32 0]).flatten) := by kernel_rfl
theorem sz59 : (Tryd.prog.info? 59).map (·.size) = some 1 := by kernel_rfl
theorem tk59 : TK Tryd.prog 59 (kint .u32) := ⟨by kernel_rfl, by kernel_rfl⟩
theorem hb38 : hasBody Tryd.prog 38 := ⟨_, Tryd.func38, by kernel_rfl, by kernel_rfl⟩
theorem hb36 : hasBody Tryd.prog 36 := ⟨_, Tryd.func36, by kernel_rfl, by kernel_rfl⟩
theorem zz60 : ((Tryd.prog.info? 60).bind (·.zero)) = some (mkv true (List.replicate 8 [.int .u32 0]).flatten) := by kernel_rfl
theorem tk74 : TK Tryd.prog 74 (karr 64 (kint .u32)) := ⟨by kernel_rfl, by kernel_rfl⟩
theorem hb37 : hasBody Tryd.prog 37 := ⟨_, Tryd.func37, by kernel_rfl, by kernel_rfl⟩
theorem hb35 : hasBody Tryd.prog 35 := ⟨_, Tryd.func35, by kernel_rfl, by kernel_rfl⟩
theorem hb32 : hasBody Tryd.prog 32 := ⟨_, Tryd.func32, by kernel_rfl, by kernel_rfl⟩
theorem sz62 : (Tryd.prog.info? 62).map (·.size) = some 1 := by kernel_rfl
theorem tk62 : TK Tryd.prog 62 (kint .u64) := ⟨by kernel_rfl, by kernel_rfl⟩
theorem hb26 : hasBody Tryd.prog 26 := ⟨_, Tryd.func26, by kernel_rfl, by kernel_rfl⟩
theorem tk64 : TK Tryd.prog 64 k_digest_Hash := ⟨by kernel_rfl, by kernel_rfl⟩
theorem hb27 : hasBody Tryd.prog 27 := ⟨_, Tryd.func27, by kernel_rfl, by kernel_rfl⟩
theorem hb19 : hasBody Tryd.prog 19 := ⟨_, Tryd.func19, by kernel_rfl, by kernel_rfl⟩
theorem hb8 : hasBody Tryd.prog 8 := ⟨_, Tryd.func8, by kernel_rfl, by kernel_rfl⟩
theorem hb20 : hasBody Tryd.prog 20 := ⟨_, Tryd.func20, by kernel_rfl, by kernel_rfl⟩
theorem zz73 : ((Tryd.prog.info? 73).bind (·.zero)) = some (mkv true (List.replicate 8 [.int .u8 0]).flatten) := by kernel_rfl
theorem hb28 : hasBody Tryd.prog 28 := ⟨_, Tryd.func28, by kernel_rfl, by kernel_rfl⟩
theorem hb33 : hasBody Tryd.prog 33 := ⟨_, Tryd.func33, by kernel_rfl, by kernel_rfl⟩
theorem hb34 : hasBody Tryd.prog 34 := ⟨_, Tryd.func34, by kernel_rfl, by kernel_rfl⟩
theorem hb29 : hasBody Tryd.prog 29 := ⟨_, Tryd.func29, by kernel_rfl, by kernel_rfl⟩
theorem hb21 : hasBody Tryd.prog 21 := ⟨_, Tryd.func21, by kernel_rfl, by kernel_rfl⟩
theorem hb9 : hasBody Tryd.prog 9 := ⟨_, Tryd.func9, by kernel_rfl, by kernel_rfl⟩

end Go.Proofs.YtankoeffbdnffaaDoor
