/- Closed facts on the program's types and functions. No condition. -/
import Derived.Test.YtlcddcamnkgeeaaSPure
import Derived.Test.YtlcddcamnkgeeaaProg
namespace Go.Proofs.Ytlcddcamnkgeeaa
open Go Go.RowKit Go.Proofs.Kit Go.Proofs.Pure
set_option linter.unusedVariables false
set_option linter.unusedSimpArgs false
set_option maxRecDepth 100000
set_option maxHeartbeats 2000000

theorem mx : Try.prog.follows .mixedOrders = true := by kernel_rfl
theorem ap91 : ApOk Try.prog 91 (karr 256 (kint .u8)) (List.replicate 256 [.int .u8 0]).flatten := ⟨by kernel_rfl, by kernel_rfl, by kernel_rfl⟩
theorem zz87 : ((Try.prog.info? 87).bind (·.zero)) = some (mkv true ([.slice none 0 0] ++ ([.slice none 0 0] ++ ([.int .i64 0] ++ ([.bool false] ++ []))))) := by kernel_rfl
theorem pl87 : (match Try.prog.underlying 87 with | some (.struct fs) => fs.toList.mapM (fun f => (Try.prog.info? f.type).map fun i => (f.offset, i.size)) | _ => none) = some [(0, 1), (1, 1), (2, 1), (3, 1)] := by kernel_rfl
theorem hb12 : hasBody Try.prog 12 := ⟨_, Try.func12, by kernel_rfl, by kernel_rfl⟩
theorem ap5 : ApOk Try.prog 5 (kint .u8) [.int .u8 0] := ⟨by kernel_rfl, by kernel_rfl, by kernel_rfl⟩
theorem sz5 : (Try.prog.info? 5).map (·.size) = some 1 := by kernel_rfl
theorem tk5 : TK Try.prog 5 (kint .u8) := ⟨by kernel_rfl, by kernel_rfl⟩
theorem hb16 : hasBody Try.prog 16 := ⟨_, Try.func16, by kernel_rfl, by kernel_rfl⟩
theorem pt25 : Try.prog.underlying 25 = some (.pointer (Try.prog.pointee 25)) := by kernel_rfl
theorem sz84 : (Try.prog.info? 84).map (·.size) = some 1 := by kernel_rfl
theorem tk84 : TK Try.prog 84 (ksl (karr 256 (kint .u8))) := ⟨by kernel_rfl, by kernel_rfl⟩
theorem hb26 : hasBody Try.prog 26 := ⟨_, Try.func26, by kernel_rfl, by kernel_rfl⟩
theorem hb50 : hasBody Try.prog 50 := ⟨_, Try.func50, by kernel_rfl, by kernel_rfl⟩
theorem sz4 : (Try.prog.info? 4).map (·.size) = some 1 := by kernel_rfl
theorem tk4 : TK Try.prog 4 kbool := ⟨by kernel_rfl, by kernel_rfl⟩
theorem zz93 : ((Try.prog.info? 93).bind (·.zero)) = some (mkv true ([.int .i64 0] ++ ((List.replicate 256 [.int .u8 0]).flatten ++ []))) := by kernel_rfl
theorem pl93 : (match Try.prog.underlying 93 with | some (.struct fs) => fs.toList.mapM (fun f => (Try.prog.info? f.type).map fun i => (f.offset, i.size)) | _ => none) = some [(0, 1), (1, 256)] := by kernel_rfl
theorem tk93 : TK Try.prog 93 k_disk_write := ⟨by kernel_rfl, by kernel_rfl⟩
theorem sz91 : (Try.prog.info? 91).map (·.size) = some 256 := by kernel_rfl
theorem sz85 : (Try.prog.info? 85).map (·.size) = some 1 := by kernel_rfl
theorem tkr85 (v : Value) : TK Try.prog 85 (kis v) := ⟨by kernel_rfl, by kernel_rfl⟩
theorem sz93 : (Try.prog.info? 93).map (·.size) = some 257 := by kernel_rfl
theorem ap93 : ApOk Try.prog 93 k_disk_write ([.int .i64 0] ++ ((List.replicate 256 [.int .u8 0]).flatten ++ [])) := ⟨by kernel_rfl, by kernel_rfl, by kernel_rfl⟩
theorem sz3 : (Try.prog.info? 3).map (·.size) = some 1 := by kernel_rfl
theorem tk3 : TK Try.prog 3 (kint .i64) := ⟨by kernel_rfl, by kernel_rfl⟩
theorem hb47 : hasBody Try.prog 47 := ⟨_, Try.func47, by kernel_rfl, by kernel_rfl⟩
theorem hb15 : hasBody Try.prog 15 := ⟨_, Try.func15, by kernel_rfl, by kernel_rfl⟩
theorem zz5 : ((Try.prog.info? 5).bind (·.zero)) = some (mkv false [.int .u8 0]) := by kernel_rfl
theorem tk23 : TK Try.prog 23 (ksl (kint .u8)) := ⟨by kernel_rfl, by kernel_rfl⟩
theorem hb51 : hasBody Try.prog 51 := ⟨_, Try.func51, by kernel_rfl, by kernel_rfl⟩
theorem tkr84 (v : Value) : TK Try.prog 84 (kis v) := ⟨by kernel_rfl, by kernel_rfl⟩
theorem hb48 : hasBody Try.prog 48 := ⟨_, Try.func48, by kernel_rfl, by kernel_rfl⟩
theorem kf_disk_write : KFlat k_disk_write := KFlat.iso (KFlat.pair (KFlat.int _) (KFlat.pair (KFlat.arr (KFlat.int _)) KFlat.nil))
theorem hb17 : hasBody Try.prog 17 := ⟨_, Try.func17, by kernel_rfl, by kernel_rfl⟩
theorem hb18 : hasBody Try.prog 18 := ⟨_, Try.func18, by kernel_rfl, by kernel_rfl⟩
theorem hb25 : hasBody Try.prog 25 := ⟨_, Try.func25, by kernel_rfl, by kernel_rfl⟩
theorem hb11 : hasBody Try.prog 11 := ⟨_, Try.func11, by kernel_rfl, by kernel_rfl⟩
theorem zz27 : ((Try.prog.info? 27).bind (·.zero)) = some (mkv true (List.replicate 12 [.slice none 0 0]).flatten) := by kernel_rfl
theorem sz23 : (Try.prog.info? 23).map (·.size) = some 1 := by kernel_rfl
theorem tkr23 (v : Value) : TK Try.prog 23 (kis v) := ⟨by kernel_rfl, by kernel_rfl⟩
theorem sz30 : (Try.prog.info? 30).map (·.size) = some 6 := by kernel_rfl
theorem tk30 : TK Try.prog 30 k_caballaw12_Act := ⟨by kernel_rfl, by kernel_rfl⟩
theorem zz30 : ((Try.prog.info? 30).bind (·.zero)) = some (mkv true ([.int .i64 0] ++ ([.int .i64 0] ++ ([.int .i64 0] ++ ([.int .u8 0] ++ ([.int .i8 0] ++ ([.slice none 0 0] ++ []))))))) := by kernel_rfl
theorem hb49 : hasBody Try.prog 49 := ⟨_, Try.func49, by kernel_rfl, by kernel_rfl⟩
theorem hb13 : hasBody Try.prog 13 := ⟨_, Try.func13, by kernel_rfl, by kernel_rfl⟩
theorem tk91 : TK Try.prog 91 (karr 256 (kint .u8)) := ⟨by kernel_rfl, by kernel_rfl⟩
theorem zz91 : ((Try.prog.info? 91).bind (·.zero)) = some (mkv true (List.replicate 256 [.int .u8 0]).flatten) := by kernel_rfl
theorem tk85 : TK Try.prog 85 (ksl k_disk_write) := ⟨by kernel_rfl, by kernel_rfl⟩
theorem hb14 : hasBody Try.prog 14 := ⟨_, Try.func14, by kernel_rfl, by kernel_rfl⟩
theorem zz52 : ((Try.prog.info? 52).bind (·.zero)) = some (mkv true ([.slice none 0 0] ++ ([.slice none 0 0] ++ ([.slice none 0 0] ++ ([.int .i64 0] ++ ([.bool false] ++ [])))))) := by kernel_rfl
theorem pl52 : (match Try.prog.underlying 52 with | some (.struct fs) => fs.toList.mapM (fun f => (Try.prog.info? f.type).map fun i => (f.offset, i.size)) | _ => none) = some [(0, 1), (1, 1), (2, 1), (3, 1), (4, 1)] := by kernel_rfl
theorem sz49 : (Try.prog.info? 49).map (·.size) = some 1 := by kernel_rfl
theorem tkr49 (v : Value) : TK Try.prog 49 (kis v) := ⟨by kernel_rfl, by kernel_rfl⟩
theorem zz9 : ((Try.prog.info? 9).bind (·.zero)) = some (mkv false [.string ⟨#[]⟩]) := by kernel_rfl
theorem sz9 : (Try.prog.info? 9).map (·.size) = some 1 := by kernel_rfl
theorem ap9 : ApOk Try.prog 9 kstr [.string ⟨#[]⟩] := ⟨by kernel_rfl, by kernel_rfl, by kernel_rfl⟩
theorem hb19 : hasBody Try.prog 19 := ⟨_, Try.func19, by kernel_rfl, by kernel_rfl⟩
theorem sz28 : (Try.prog.info? 28).map (·.size) = some 1 := by kernel_rfl
theorem tk28 : TK Try.prog 28 (kint .i8) := ⟨by kernel_rfl, by kernel_rfl⟩
theorem tk49 : TK Try.prog 49 (ksl kstr) := ⟨by kernel_rfl, by kernel_rfl⟩
theorem hb27 : hasBody Try.prog 27 := ⟨_, Try.func27, by kernel_rfl, by kernel_rfl⟩
theorem sz50 : (Try.prog.info? 50).map (·.size) = some 1 := by kernel_rfl
theorem tkr50 (v : Value) : TK Try.prog 50 (kis v) := ⟨by kernel_rfl, by kernel_rfl⟩
theorem zz3 : ((Try.prog.info? 3).bind (·.zero)) = some (mkv false [.int .i64 0]) := by kernel_rfl
theorem ap3 : ApOk Try.prog 3 (kint .i64) [.int .i64 0] := ⟨by kernel_rfl, by kernel_rfl, by kernel_rfl⟩
theorem hb52 : hasBody Try.prog 52 := ⟨_, Try.func52, by kernel_rfl, by kernel_rfl⟩
theorem hb20 : hasBody Try.prog 20 := ⟨_, Try.func20, by kernel_rfl, by kernel_rfl⟩
theorem tk9 : TK Try.prog 9 kstr := ⟨by kernel_rfl, by kernel_rfl⟩
theorem hb53 : hasBody Try.prog 53 := ⟨_, Try.func53, by kernel_rfl, by kernel_rfl⟩
theorem hb54 : hasBody Try.prog 54 := ⟨_, Try.func54, by kernel_rfl, by kernel_rfl⟩
theorem hb21 : hasBody Try.prog 21 := ⟨_, Try.func21, by kernel_rfl, by kernel_rfl⟩
theorem hb22 : hasBody Try.prog 22 := ⟨_, Try.func22, by kernel_rfl, by kernel_rfl⟩
theorem hb23 : hasBody Try.prog 23 := ⟨_, Try.func23, by kernel_rfl, by kernel_rfl⟩
theorem hb24 : hasBody Try.prog 24 := ⟨_, Try.func24, by kernel_rfl, by kernel_rfl⟩
theorem tk50 : TK Try.prog 50 (ksl (kint .i64)) := ⟨by kernel_rfl, by kernel_rfl⟩
theorem hb28 : hasBody Try.prog 28 := ⟨_, Try.func28, by kernel_rfl, by kernel_rfl⟩

end Go.Proofs.Ytlcddcamnkgeeaa
