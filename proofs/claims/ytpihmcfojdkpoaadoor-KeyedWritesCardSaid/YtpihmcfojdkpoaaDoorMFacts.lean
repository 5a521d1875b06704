/- Closed facts on the program's types and functions. No condition. -/
import Derived.Test.YtpihmcfojdkpoaaDoorMPure
import Derived.Test.YtpihmcfojdkpoaaDoorProg
namespace Go.Proofs.YtpihmcfojdkpoaaDoor
open Go Go.RowKit Go.Proofs.Kit Go.Proofs.Pure
set_option linter.unusedVariables false
set_option linter.unusedSimpArgs false
set_option maxRecDepth 100000
set_option maxHeartbeats 2000000

theorem mx : Tryd.prog.follows .mixedOrders = true := by kernel_rfl
theorem sz4 : (Tryd.prog.info? 4).map (·.size) = some 1 := by kernel_rfl
theorem tk4 : TK Tryd.prog 4 kbool := ⟨by kernel_rfl, by kernel_rfl⟩
theorem tk31 : TK Tryd.prog 31 (karr 8 (kint .u32)) := ⟨by kernel_rfl, by kernel_rfl⟩
theorem sz31 : (Tryd.prog.info? 31).map (·.size) = some 8 := by kernel_rfl
theorem hb72 : hasBody Tryd.prog 72 := ⟨_, Tryd.func72, by kernel_rfl, by kernel_rfl⟩
theorem zz39 : ((Tryd.prog.info? 39).bind (·.zero)) = some (mkv true (List.replicate 64 [.int .u32 0]).flatten) := by kernel_rfl
theorem sz32 : (Tryd.prog.info? 32).map (·.size) = some 64 := by kernel_rfl
theorem sz5 : (Tryd.prog.info? 5).map (·.size) = some 1 := by kernel_rfl
theorem tk5 : TK Tryd.prog 5 (kint .u8) := ⟨by kernel_rfl, by kernel_rfl⟩
theorem sz30 : (Tryd.prog.info? 30).map (·.size) = some 1 := by kernel_rfl
theorem tk30 : TK Tryd.prog 30 (kint .u32) := ⟨by kernel_rfl, by kernel_rfl⟩
theorem hb69 : hasBody Tryd.prog 69 := ⟨_, Tryd.func69, by kernel_rfl, by kernel_rfl⟩
theorem zz31 : ((Tryd.prog.info? 31).bind (·.zero)) = some (mkv true (List.replicate 8 [.int .u32 0]).flatten) := by kernel_rfl
theorem tk39 : TK Tryd.prog 39 (karr 64 (kint .u32)) := ⟨by kernel_rfl, by kernel_rfl⟩
theorem hb70 : hasBody Tryd.prog 70 := ⟨_, Tryd.func70, by kernel_rfl, by kernel_rfl⟩
theorem sz3 : (Tryd.prog.info? 3).map (·.size) = some 1 := by kernel_rfl
theorem tk3 : TK Tryd.prog 3 (kint .i64) := ⟨by kernel_rfl, by kernel_rfl⟩
theorem hb63 : hasBody Tryd.prog 63 := ⟨_, Tryd.func63, by kernel_rfl, by kernel_rfl⟩
theorem pt44 : Tryd.prog.underlying 44 = some (.pointer (Tryd.prog.pointee 44)) := by kernel_rfl
theorem hb44 : hasBody Tryd.prog 44 := ⟨_, Tryd.func44, by kernel_rfl, by kernel_rfl⟩
theorem sz9 : (Tryd.prog.info? 9).map (·.size) = some 1 := by kernel_rfl
theorem tk9 : TK Tryd.prog 9 kstr := ⟨by kernel_rfl, by kernel_rfl⟩
theorem hb45 : hasBody Tryd.prog 45 := ⟨_, Tryd.func45, by kernel_rfl, by kernel_rfl⟩
theorem sz33 : (Tryd.prog.info? 33).map (·.size) = some 1 := by kernel_rfl
theorem tk33 : TK Tryd.prog 33 (kint .u64) := ⟨by kernel_rfl, by kernel_rfl⟩
theorem zz26 : ((Tryd.prog.info? 26).bind (·.zero)) = some (mkv true (List.replicate 32 [.int .u8 0]).flatten) := by kernel_rfl
theorem zz35 : ((Tryd.prog.info? 35).bind (·.zero)) = some (mkv true ([.bool false] ++ ((List.replicate 8 [.int .u32 0]).flatten ++ ((List.replicate 64 [.int .u8 0]).flatten ++ ([.int .i64 0] ++ ([.int .u64 0] ++ [])))))) := by kernel_rfl
theorem tk35 : TK Tryd.prog 35 k_digest_Hash := ⟨by kernel_rfl, by kernel_rfl⟩
theorem tk26 : TK Tryd.prog 26 (karr 32 (kint .u8)) := ⟨by kernel_rfl, by kernel_rfl⟩
theorem hb21 : hasBody Tryd.prog 21 := ⟨_, Tryd.func21, by kernel_rfl, by kernel_rfl⟩
theorem hb22 : hasBody Tryd.prog 22 := ⟨_, Tryd.func22, by kernel_rfl, by kernel_rfl⟩
theorem zz32 : ((Tryd.prog.info? 32).bind (·.zero)) = some (mkv true (List.replicate 64 [.int .u8 0]).flatten) := by kernel_rfl
theorem zz9 : ((Tryd.prog.info? 9).bind (·.zero)) = some (mkv false [.string ⟨#[]⟩]) := by kernel_rfl
theorem hb18 : hasBody Tryd.prog 18 := ⟨_, Tryd.func18, by kernel_rfl, by kernel_rfl⟩
theorem sz35 : (Tryd.prog.info? 35).map (·.size) = some 75 := by kernel_rfl
theorem hb66 : hasBody Tryd.prog 66 := ⟨_, Tryd.func66, by kernel_rfl, by kernel_rfl⟩
theorem pt56 : Tryd.prog.underlying 56 = some (.pointer (Tryd.prog.pointee 56)) := by kernel_rfl
theorem zz59 : ((Tryd.prog.info? 59).bind (·.zero)) = some (mkv true (([.bool false] ++ ((List.replicate 8 [.int .u32 0]).flatten ++ ((List.replicate 64 [.int .u8 0]).flatten ++ ([.int .i64 0] ++ ([.int .u64 0] ++ []))))) ++ (([.bool false] ++ ((List.replicate 8 [.int .u32 0]).flatten ++ ((List.replicate 64 [.int .u8 0]).flatten ++ ([.int .i64 0] ++ ([.int .u64 0] ++ []))))) ++ []))) := by kernel_rfl
theorem hb48 : hasBody Tryd.prog 48 := ⟨_, Tryd.func48, by kernel_rfl, by kernel_rfl⟩
theorem hb33 : hasBody Tryd.prog 33 := ⟨_, Tryd.func33, by kernel_rfl, by kernel_rfl⟩
theorem hb27 : hasBody Tryd.prog 27 := ⟨_, Tryd.func27, by kernel_rfl, by kernel_rfl⟩
theorem hb26 : hasBody Tryd.prog 26 := ⟨_, Tryd.func26, by kernel_rfl, by kernel_rfl⟩
theorem hb31 : hasBody Tryd.prog 31 := ⟨_, Tryd.func31, by kernel_rfl, by kernel_rfl⟩
theorem pl59 : (match Tryd.prog.underlying 59 with | some (.struct fs) => fs.toList.mapM (fun f => (Tryd.prog.info? f.type).map fun i => (f.offset, i.size)) | _ => none) = some [(0, 75), (75, 75)] := by kernel_rfl
theorem zz99 : ((Tryd.prog.info? 99).bind (·.zero)) = some (mkv true (List.replicate 8 [.int .u8 0]).flatten) := by kernel_rfl
theorem hb62 : hasBody Tryd.prog 62 := ⟨_, Tryd.func62, by kernel_rfl, by kernel_rfl⟩
theorem hb23 : hasBody Tryd.prog 23 := ⟨_, Tryd.func23, by kernel_rfl, by kernel_rfl⟩
theorem hb42 : hasBody Tryd.prog 42 := ⟨_, Tryd.func42, by kernel_rfl, by kernel_rfl⟩
theorem hb43 : hasBody Tryd.prog 43 := ⟨_, Tryd.func43, by kernel_rfl, by kernel_rfl⟩
theorem zz5 : ((Tryd.prog.info? 5).bind (·.zero)) = some (mkv false [.int .u8 0]) := by kernel_rfl
theorem ap5 : ApOk Tryd.prog 5 (kint .u8) [.int .u8 0] := ⟨by kernel_rfl, by kernel_rfl, by kernel_rfl⟩
theorem hb19 : hasBody Tryd.prog 19 := ⟨_, Tryd.func19, by kernel_rfl, by kernel_rfl⟩
theorem hb49 : hasBody Tryd.prog 49 := ⟨_, Tryd.func49, by kernel_rfl, by kernel_rfl⟩
theorem hb50 : hasBody Tryd.prog 50 := ⟨_, Tryd.func50, by kernel_rfl, by kernel_rfl⟩
theorem hb28 : hasBody Tryd.prog 28 := ⟨_, Tryd.func28, by kernel_rfl, by kernel_rfl⟩
theorem hb32 : hasBody Tryd.prog 32 := ⟨_, Tryd.func32, by kernel_rfl, by kernel_rfl⟩
theorem hb29 : hasBody Tryd.prog 29 := ⟨_, Tryd.func29, by kernel_rfl, by kernel_rfl⟩
theorem eq5 : EqK Tryd.prog 5 (kint .u8) 1 := eq_int Tryd.underlying5
theorem eq26 : EqK Tryd.prog 26 (karr 32 (kint .u8)) 2 := eq_arr Tryd.underlying26 tk5 eq5
theorem hb25 : hasBody Tryd.prog 25 := ⟨_, Tryd.func25, by kernel_rfl, by kernel_rfl⟩

end Go.Proofs.YtpihmcfojdkpoaaDoor
