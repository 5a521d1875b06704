/- Closed facts on the program's types and functions. No condition. -/
import Derived.Test.YtdlnfgpcnfbjiaaVPure
import Derived.Test.YtdlnfgpcnfbjiaaProg
namespace Go.Proofs.Ytdlnfgpcnfbjiaa
open Go Go.RowKit Go.Proofs.Kit Go.Proofs.Pure
set_option linter.unusedVariables false
set_option linter.unusedSimpArgs false
set_option maxRecDepth 100000
set_option maxHeartbeats 2000000

theorem mx : Try.prog.follows .mixedOrders = true := by kernel_rfl
theorem zz39 : ((Try.prog.info? 39).bind (·.zero)) = some (mkv true (List.replicate 32 [.int .u8 0]).flatten) := by kernel_rfl
theorem sz5 : (Try.prog.info? 5).map (·.size) = some 1 := by kernel_rfl
theorem zz44 : ((Try.prog.info? 44).bind (·.zero)) = some (mkv true ([.int .i64 0] ++ ([.int .u32 0] ++ ([.slice none 0 0] ++ ([.int .i64 0] ++ ([.slice none 0 0] ++ ((List.replicate 32 [.int .u8 0]).flatten ++ ((List.replicate 32 [.int .u8 0]).flatten ++ ([.string ⟨#[]⟩] ++ ([.slice none 0 0] ++ [])))))))))) := by kernel_rfl
theorem tk39 : TK Try.prog 39 (karr 32 (kint .u8)) := ⟨by kernel_rfl, by kernel_rfl⟩
theorem sz39 : (Try.prog.info? 39).map (·.size) = some 32 := by kernel_rfl
theorem pl44 : (match Try.prog.underlying 44 with | some (.struct fs) => fs.toList.mapM (fun f => (Try.prog.info? f.type).map fun i => (f.offset, i.size)) | _ => none) = some [(0, 1), (1, 1), (2, 1), (3, 1), (4, 1), (5, 32), (37, 32), (69, 1), (70, 1)] := by kernel_rfl
theorem tk44 : TK Try.prog 44 k_api_Op := ⟨by kernel_rfl, by kernel_rfl⟩
theorem hb109 : hasBody Try.prog 109 := ⟨_, Try.func109, by kernel_rfl, by kernel_rfl⟩
theorem zz91 : ((Try.prog.info? 91).bind (·.zero)) = some (mkv true ((List.replicate 32 [.int .u8 0]).flatten ++ (([.int .i64 0] ++ ([.int .u32 0] ++ ([.slice none 0 0] ++ ([.int .i64 0] ++ ([.slice none 0 0] ++ ((List.replicate 32 [.int .u8 0]).flatten ++ ((List.replicate 32 [.int .u8 0]).flatten ++ ([.string ⟨#[]⟩] ++ ([.slice none 0 0] ++ []))))))))) ++ ([.slice none 0 0] ++ [])))) := by kernel_rfl
theorem pl91 : (match Try.prog.underlying 91 with | some (.struct fs) => fs.toList.mapM (fun f => (Try.prog.info? f.type).map fun i => (f.offset, i.size)) | _ => none) = some [(0, 32), (32, 71), (103, 1)] := by kernel_rfl
theorem sz91 : (Try.prog.info? 91).map (·.size) = some 104 := by kernel_rfl
theorem tk91 : TK Try.prog 91 k_api_Held := ⟨by kernel_rfl, by kernel_rfl⟩
theorem tk5 : TK Try.prog 5 (kint .u8) := ⟨by kernel_rfl, by kernel_rfl⟩
theorem eq5 : EqK Try.prog 5 (kint .u8) 1 := eq_int Try.underlying5
theorem eq39 : EqK Try.prog 39 (karr 32 (kint .u8)) 2 := eq_arr Try.underlying39 tk5 eq5
theorem hb119 : hasBody Try.prog 119 := ⟨_, Try.func119, by kernel_rfl, by kernel_rfl⟩
theorem hb110 : hasBody Try.prog 110 := ⟨_, Try.func110, by kernel_rfl, by kernel_rfl⟩
theorem hb72 : hasBody Try.prog 72 := ⟨_, Try.func72, by kernel_rfl, by kernel_rfl⟩
theorem sz44 : (Try.prog.info? 44).map (·.size) = some 71 := by kernel_rfl
theorem sz3 : (Try.prog.info? 3).map (·.size) = some 1 := by kernel_rfl
theorem tk3 : TK Try.prog 3 (kint .i64) := ⟨by kernel_rfl, by kernel_rfl⟩
theorem hb136 : hasBody Try.prog 136 := ⟨_, Try.func136, by kernel_rfl, by kernel_rfl⟩
theorem sz25 : (Try.prog.info? 25).map (·.size) = some 1 := by kernel_rfl
theorem tk25 : TK Try.prog 25 (kint .u32) := ⟨by kernel_rfl, by kernel_rfl⟩
theorem sz40 : (Try.prog.info? 40).map (·.size) = some 1 := by kernel_rfl
theorem tk40 : TK Try.prog 40 (ksl (karr 32 (kint .u8))) := ⟨by kernel_rfl, by kernel_rfl⟩
theorem zz156 : ((Try.prog.info? 156).bind (·.zero)) = some (mkv true ([.slice none 0 0] ++ ([.nilFunc] ++ []))) := by kernel_rfl
theorem pl156 : (match Try.prog.underlying 156 with | some (.struct fs) => fs.toList.mapM (fun f => (Try.prog.info? f.type).map fun i => (f.offset, i.size)) | _ => none) = some [(0, 1), (1, 1)] := by kernel_rfl
theorem sz125 : (Try.prog.info? 125).map (·.size) = some 1 := by kernel_rfl
theorem tk125 : TK Try.prog 125 (kis (.func (.func 137) #[] #[])) := ⟨by kernel_rfl, by kernel_rfl⟩
theorem xc147 : isCompare Try.prog 147 := ⟨_, Try.func147, by kernel_rfl, by kernel_rfl, by kernel_rfl, by kernel_rfl⟩
theorem hb102 : hasBody Try.prog 102 := ⟨_, Try.func102, by kernel_rfl, by kernel_rfl⟩
theorem hb137 : hasBody Try.prog 137 := ⟨_, Try.func137, by kernel_rfl, by kernel_rfl⟩
theorem hb138 : hasBody Try.prog 138 := ⟨_, Try.func138, by kernel_rfl, by kernel_rfl⟩
theorem sz9 : (Try.prog.info? 9).map (·.size) = some 1 := by kernel_rfl
theorem tk9 : TK Try.prog 9 kstr := ⟨by kernel_rfl, by kernel_rfl⟩
theorem sz41 : (Try.prog.info? 41).map (·.size) = some 1 := by kernel_rfl
theorem tk41 : TK Try.prog 41 (ksl (kint .i64)) := ⟨by kernel_rfl, by kernel_rfl⟩
theorem zz170 : ((Try.prog.info? 170).bind (·.zero)) = some (mkv true ([.slice none 0 0] ++ ([.nilFunc] ++ []))) := by kernel_rfl
theorem pl170 : (match Try.prog.underlying 170 with | some (.struct fs) => fs.toList.mapM (fun f => (Try.prog.info? f.type).map fun i => (f.offset, i.size)) | _ => none) = some [(0, 1), (1, 1)] := by kernel_rfl
theorem sz168 : (Try.prog.info? 168).map (·.size) = some 1 := by kernel_rfl
theorem tk168 : TK Try.prog 168 (kis (.func (.func 155) #[] #[])) := ⟨by kernel_rfl, by kernel_rfl⟩
theorem hb155 : hasBody Try.prog 155 := ⟨_, Try.func155, by kernel_rfl, by kernel_rfl⟩
theorem hb156 : hasBody Try.prog 156 := ⟨_, Try.func156, by kernel_rfl, by kernel_rfl⟩
theorem hb157 : hasBody Try.prog 157 := ⟨_, Try.func157, by kernel_rfl, by kernel_rfl⟩
theorem hb152 : hasBody Try.prog 152 := ⟨_, Try.func152, by kernel_rfl, by kernel_rfl⟩
theorem hb132 : hasBody Try.prog 132 := ⟨_, Try.func132, by kernel_rfl, by kernel_rfl⟩
theorem hb128 : hasBody Try.prog 128 := ⟨_, Try.func128, by kernel_rfl, by kernel_rfl⟩
theorem hb83 : hasBody Try.prog 83 := ⟨_, Try.func83, by kernel_rfl, by kernel_rfl⟩
theorem hb139 : hasBody Try.prog 139 := ⟨_, Try.func139, by kernel_rfl, by kernel_rfl⟩
theorem sz42 : (Try.prog.info? 42).map (·.size) = some 1 := by kernel_rfl
theorem tk42 : TK Try.prog 42 (ksl k_api_Box) := ⟨by kernel_rfl, by kernel_rfl⟩
theorem zz173 : ((Try.prog.info? 173).bind (·.zero)) = some (mkv true ([.slice none 0 0] ++ ([.nilFunc] ++ []))) := by kernel_rfl
theorem pl173 : (match Try.prog.underlying 173 with | some (.struct fs) => fs.toList.mapM (fun f => (Try.prog.info? f.type).map fun i => (f.offset, i.size)) | _ => none) = some [(0, 1), (1, 1)] := by kernel_rfl
theorem sz171 : (Try.prog.info? 171).map (·.size) = some 1 := by kernel_rfl
theorem tk171 : TK Try.prog 171 (kis (.func (.func 158) #[] #[])) := ⟨by kernel_rfl, by kernel_rfl⟩
theorem sz78 : (Try.prog.info? 78).map (·.size) = some 36 := by kernel_rfl
theorem tk78 : TK Try.prog 78 k_api_Box := ⟨by kernel_rfl, by kernel_rfl⟩
theorem hb158 : hasBody Try.prog 158 := ⟨_, Try.func158, by kernel_rfl, by kernel_rfl⟩
theorem hb159 : hasBody Try.prog 159 := ⟨_, Try.func159, by kernel_rfl, by kernel_rfl⟩
theorem hb161 : hasBody Try.prog 161 := ⟨_, Try.func161, by kernel_rfl, by kernel_rfl⟩
theorem hb184 : hasBody Try.prog 184 := ⟨_, Try.func184, by kernel_rfl, by kernel_rfl⟩
theorem hb160 : hasBody Try.prog 160 := ⟨_, Try.func160, by kernel_rfl, by kernel_rfl⟩
theorem hb140 : hasBody Try.prog 140 := ⟨_, Try.func140, by kernel_rfl, by kernel_rfl⟩
theorem hb91 : hasBody Try.prog 91 := ⟨_, Try.func91, by kernel_rfl, by kernel_rfl⟩
theorem hb71 : hasBody Try.prog 71 := ⟨_, Try.func71, by kernel_rfl, by kernel_rfl⟩
theorem kf_api_Head : KFlat k_api_Head := KFlat.iso (KFlat.pair (KFlat.arr (KFlat.int _)) (KFlat.pair (KFlat.int _) (KFlat.pair (KFlat.int _) KFlat.nil)))
theorem kf_api_Box : KFlat k_api_Box := KFlat.iso (KFlat.pair (KFlat.int _) (KFlat.pair kf_api_Head (KFlat.pair KFlat.str KFlat.nil)))
theorem ap39 : ApOk Try.prog 39 (karr 32 (kint .u8)) (List.replicate 32 [.int .u8 0]).flatten := ⟨by kernel_rfl, by kernel_rfl, by kernel_rfl⟩
theorem hb142 : hasBody Try.prog 142 := ⟨_, Try.func142, by kernel_rfl, by kernel_rfl⟩
theorem ap3 : ApOk Try.prog 3 (kint .i64) [.int .i64 0] := ⟨by kernel_rfl, by kernel_rfl, by kernel_rfl⟩
theorem hb80 : hasBody Try.prog 80 := ⟨_, Try.func80, by kernel_rfl, by kernel_rfl⟩
theorem ap78 : ApOk Try.prog 78 k_api_Box ([.int .i64 0] ++ (((List.replicate 32 [.int .u8 0]).flatten ++ ([.int .u32 0] ++ ([.int .u32 0] ++ []))) ++ ([.string ⟨#[]⟩] ++ []))) := ⟨by kernel_rfl, by kernel_rfl, by kernel_rfl⟩
theorem hb143 : hasBody Try.prog 143 := ⟨_, Try.func143, by kernel_rfl, by kernel_rfl⟩
theorem hb118 : hasBody Try.prog 118 := ⟨_, Try.func118, by kernel_rfl, by kernel_rfl⟩
theorem ap91 : ApOk Try.prog 91 k_api_Held ((List.replicate 32 [.int .u8 0]).flatten ++ (([.int .i64 0] ++ ([.int .u32 0] ++ ([.slice none 0 0] ++ ([.int .i64 0] ++ ([.slice none 0 0] ++ ((List.replicate 32 [.int .u8 0]).flatten ++ ((List.replicate 32 [.int .u8 0]).flatten ++ ([.string ⟨#[]⟩] ++ ([.slice none 0 0] ++ []))))))))) ++ ([.slice none 0 0] ++ []))) := ⟨by kernel_rfl, by kernel_rfl, by kernel_rfl⟩
theorem hb117 : hasBody Try.prog 117 := ⟨_, Try.func117, by kernel_rfl, by kernel_rfl⟩
theorem hb66 : hasBody Try.prog 66 := ⟨_, Try.func66, by kernel_rfl, by kernel_rfl⟩
theorem sz46 : (Try.prog.info? 46).map (·.size) = some 104 := by kernel_rfl
theorem tk46 : TK Try.prog 46 k_api_Node := ⟨by kernel_rfl, by kernel_rfl⟩
theorem zz46 : ((Try.prog.info? 46).bind (·.zero)) = some (mkv true ((List.replicate 32 [.int .u8 0]).flatten ++ (([.int .i64 0] ++ ([.int .u32 0] ++ ([.slice none 0 0] ++ ([.int .i64 0] ++ ([.slice none 0 0] ++ ((List.replicate 32 [.int .u8 0]).flatten ++ ((List.replicate 32 [.int .u8 0]).flatten ++ ([.string ⟨#[]⟩] ++ ([.slice none 0 0] ++ []))))))))) ++ ([.slice none 0 0] ++ [])))) := by kernel_rfl
theorem hb99 : hasBody Try.prog 99 := ⟨_, Try.func99, by kernel_rfl, by kernel_rfl⟩
theorem hb98 : hasBody Try.prog 98 := ⟨_, Try.func98, by kernel_rfl, by kernel_rfl⟩
theorem hb48 : hasBody Try.prog 48 := ⟨_, Try.func48, by kernel_rfl, by kernel_rfl⟩
theorem zz4 : ((Try.prog.info? 4).bind (·.zero)) = some (mkv false [.bool false]) := by kernel_rfl
theorem zz3 : ((Try.prog.info? 3).bind (·.zero)) = some (mkv false [.int .i64 0]) := by kernel_rfl
theorem hb92 : hasBody Try.prog 92 := ⟨_, Try.func92, by kernel_rfl, by kernel_rfl⟩
theorem hb106 : hasBody Try.prog 106 := ⟨_, Try.func106, by kernel_rfl, by kernel_rfl⟩
theorem hb185 : hasBody Try.prog 185 := ⟨_, Try.func185, by kernel_rfl, by kernel_rfl⟩
theorem hb162 : hasBody Try.prog 162 := ⟨_, Try.func162, by kernel_rfl, by kernel_rfl⟩
theorem hb163 : hasBody Try.prog 163 := ⟨_, Try.func163, by kernel_rfl, by kernel_rfl⟩
theorem hb141 : hasBody Try.prog 141 := ⟨_, Try.func141, by kernel_rfl, by kernel_rfl⟩
theorem hb93 : hasBody Try.prog 93 := ⟨_, Try.func93, by kernel_rfl, by kernel_rfl⟩
theorem hb78 : hasBody Try.prog 78 := ⟨_, Try.func78, by kernel_rfl, by kernel_rfl⟩
theorem hb24 : hasBody Try.prog 24 := ⟨_, Try.func24, by kernel_rfl, by kernel_rfl⟩
theorem hb174 : hasBody Try.prog 174 := ⟨_, Try.func174, by kernel_rfl, by kernel_rfl⟩
theorem hb146 : hasBody Try.prog 146 := ⟨_, Try.func146, by kernel_rfl, by kernel_rfl⟩
theorem hb115 : hasBody Try.prog 115 := ⟨_, Try.func115, by kernel_rfl, by kernel_rfl⟩
theorem hb165 : hasBody Try.prog 165 := ⟨_, Try.func165, by kernel_rfl, by kernel_rfl⟩
theorem hb186 : hasBody Try.prog 186 := ⟨_, Try.func186, by kernel_rfl, by kernel_rfl⟩
theorem hb166 : hasBody Try.prog 166 := ⟨_, Try.func166, by kernel_rfl, by kernel_rfl⟩
theorem zz192 : ((Try.prog.info? 192).bind (·.zero)) = some (mkv false [.int .u64 0]) := by kernel_rfl
theorem tk192 : TK Try.prog 192 (kint .u64) := ⟨by kernel_rfl, by kernel_rfl⟩
theorem hb187 : hasBody Try.prog 187 := ⟨_, Try.func187, by kernel_rfl, by kernel_rfl⟩
theorem hb188 : hasBody Try.prog 188 := ⟨_, Try.func188, by kernel_rfl, by kernel_rfl⟩
theorem hb167 : hasBody Try.prog 167 := ⟨_, Try.func167, by kernel_rfl, by kernel_rfl⟩
theorem hb194 : hasBody Try.prog 194 := ⟨_, Try.func194, by kernel_rfl, by kernel_rfl⟩
theorem hb190 : hasBody Try.prog 190 := ⟨_, Try.func190, by kernel_rfl, by kernel_rfl⟩
theorem hb189 : hasBody Try.prog 189 := ⟨_, Try.func189, by kernel_rfl, by kernel_rfl⟩
theorem hb168 : hasBody Try.prog 168 := ⟨_, Try.func168, by kernel_rfl, by kernel_rfl⟩
theorem hb169 : hasBody Try.prog 169 := ⟨_, Try.func169, by kernel_rfl, by kernel_rfl⟩
theorem hb170 : hasBody Try.prog 170 := ⟨_, Try.func170, by kernel_rfl, by kernel_rfl⟩
theorem hb171 : hasBody Try.prog 171 := ⟨_, Try.func171, by kernel_rfl, by kernel_rfl⟩
theorem hb172 : hasBody Try.prog 172 := ⟨_, Try.func172, by kernel_rfl, by kernel_rfl⟩
theorem hb145 : hasBody Try.prog 145 := ⟨_, Try.func145, by kernel_rfl, by kernel_rfl⟩
theorem hb100 : hasBody Try.prog 100 := ⟨_, Try.func100, by kernel_rfl, by kernel_rfl⟩
theorem hb150 : hasBody Try.prog 150 := ⟨_, Try.func150, by kernel_rfl, by kernel_rfl⟩
theorem hb114 : hasBody Try.prog 114 := ⟨_, Try.func114, by kernel_rfl, by kernel_rfl⟩
theorem hb62 : hasBody Try.prog 62 := ⟨_, Try.func62, by kernel_rfl, by kernel_rfl⟩
theorem hb69 : hasBody Try.prog 69 := ⟨_, Try.func69, by kernel_rfl, by kernel_rfl⟩
theorem tk22 : TK Try.prog 22 (ksl k_api_Node) := ⟨by kernel_rfl, by kernel_rfl⟩
theorem hb113 : hasBody Try.prog 113 := ⟨_, Try.func113, by kernel_rfl, by kernel_rfl⟩
theorem hb149 : hasBody Try.prog 149 := ⟨_, Try.func149, by kernel_rfl, by kernel_rfl⟩
theorem hb112 : hasBody Try.prog 112 := ⟨_, Try.func112, by kernel_rfl, by kernel_rfl⟩
theorem hb111 : hasBody Try.prog 111 := ⟨_, Try.func111, by kernel_rfl, by kernel_rfl⟩
theorem hb61 : hasBody Try.prog 61 := ⟨_, Try.func61, by kernel_rfl, by kernel_rfl⟩
theorem hb59 : hasBody Try.prog 59 := ⟨_, Try.func59, by kernel_rfl, by kernel_rfl⟩
theorem hb51 : hasBody Try.prog 51 := ⟨_, Try.func51, by kernel_rfl, by kernel_rfl⟩
theorem hb60 : hasBody Try.prog 60 := ⟨_, Try.func60, by kernel_rfl, by kernel_rfl⟩
theorem hb23 : hasBody Try.prog 23 := ⟨_, Try.func23, by kernel_rfl, by kernel_rfl⟩
theorem hb56 : hasBody Try.prog 56 := ⟨_, Try.func56, by kernel_rfl, by kernel_rfl⟩
theorem hb44 : hasBody Try.prog 44 := ⟨_, Try.func44, by kernel_rfl, by kernel_rfl⟩
theorem hb55 : hasBody Try.prog 55 := ⟨_, Try.func55, by kernel_rfl, by kernel_rfl⟩
theorem hb129 : hasBody Try.prog 129 := ⟨_, Try.func129, by kernel_rfl, by kernel_rfl⟩
theorem hb108 : hasBody Try.prog 108 := ⟨_, Try.func108, by kernel_rfl, by kernel_rfl⟩
theorem zz78 : ((Try.prog.info? 78).bind (·.zero)) = some (mkv true ([.int .i64 0] ++ (((List.replicate 32 [.int .u8 0]).flatten ++ ([.int .u32 0] ++ ([.int .u32 0] ++ []))) ++ ([.string ⟨#[]⟩] ++ [])))) := by kernel_rfl
theorem hb130 : hasBody Try.prog 130 := ⟨_, Try.func130, by kernel_rfl, by kernel_rfl⟩
theorem hb85 : hasBody Try.prog 85 := ⟨_, Try.func85, by kernel_rfl, by kernel_rfl⟩
theorem hb38 : hasBody Try.prog 38 := ⟨_, Try.func38, by kernel_rfl, by kernel_rfl⟩
theorem hb86 : hasBody Try.prog 86 := ⟨_, Try.func86, by kernel_rfl, by kernel_rfl⟩
theorem hb30 : hasBody Try.prog 30 := ⟨_, Try.func30, by kernel_rfl, by kernel_rfl⟩
theorem hb73 : hasBody Try.prog 73 := ⟨_, Try.func73, by kernel_rfl, by kernel_rfl⟩
theorem hb63 : hasBody Try.prog 63 := ⟨_, Try.func63, by kernel_rfl, by kernel_rfl⟩
theorem hb64 : hasBody Try.prog 64 := ⟨_, Try.func64, by kernel_rfl, by kernel_rfl⟩
theorem hb116 : hasBody Try.prog 116 := ⟨_, Try.func116, by kernel_rfl, by kernel_rfl⟩
theorem hb65 : hasBody Try.prog 65 := ⟨_, Try.func65, by kernel_rfl, by kernel_rfl⟩
theorem hb49 : hasBody Try.prog 49 := ⟨_, Try.func49, by kernel_rfl, by kernel_rfl⟩

end Go.Proofs.Ytdlnfgpcnfbjiaa
