/- A part of the proof: texts Gtg. -/
import Derived.Test.YtlkjiffohmkidaaGreatB4
namespace Go.Sh
set_option linter.unusedSectionVars false
set_option linter.unnecessarySimpa false
set_option linter.unusedSimpArgs false
set_option linter.unusedVariables false
set_option maxRecDepth 100000
set_option maxHeartbeats 4000000
def pU:bp:=⟨[.cell 6 true 4,.tmp 7],SQ [OG 3 0,OO 6 (.alloc [FW,FW,FW,FW]),OK 7 0] (.seq (.block 0 (SQ [OM 11 1,OF 12 2 3,OL 13 12,OB 14 .leq 11 13,OM 10 14] (.cond (.t 10) (SQ [OO 15 (.build [FW,FW,FW,FW] []),⟨none,.store 4 (.t 6) (.t 15),none⟩,OK 7 5] .ret) (SQ [OM 17 2,OJ 18 .lss 17 (-4999),OM 19 18,PU 20 2 19,OU 21 (.bin .gtr (.t 20) (IC 4999)) 19,OO 22 (FX 19 21),OM 16 22] (.cond (.t 16) (SQ [OO 23 (.build [FW,FW,FW,FW] []),⟨none,.store 4 (.t 6) (.t 23),none⟩,OK 7 15] .ret) (SQ [OF 25 3 3,OL 26 25,OJ 27 .eql 26 4096,OM 24 27] (CS 24 (SQ [OO 28 (.build [FW,FW,FW,FW] []),⟨none,.store 4 (.t 6) (.t 28),none⟩,OK 7 13] .ret)))))))) (SQ [OF 30 0 3,OA 31 2 30,OM 32 2,OC 33 187 [31,32],OM 29 33,OX 34 29 0,OX 35 29 1,OO 8 (.alloc [FW,FW]),⟨none,.store 2 (.t 8) (.t 34),none⟩,OM 9 35] (.seq (SQ [OM 36 9,OJ 37 .neq 36 0] (CS 37 (SQ [OO 38 (.build [FW,FW,FW,FW] []),⟨none,.store 4 (.t 6) (.t 38),none⟩,OK 7 1] .ret))) (SQ [OA 39 2 8,OM 40 1,OF 41 3 3,OL 42 41,OJ 43 .add 42 1,OO 44 (.build [FW,FW,FW,FW] [(0,(2,.t 39)),(2,(1,.t 40)),(3,(1,.t 43))]),⟨none,.store 4 (.t 6) (.t 44),none⟩,OK 7 0] .ret)))),false⟩
theorem AD:T 157=some pU:=by kernel_rfl
def sH:bp:=⟨[.tmp 4,.tmp 5],SQ [OG 2 0,OK 4 0,OK 5 0] (.seq (.block 0 (SQ [OA 7 2 2,OC 8 92 [7],OJ 9 .neq 8 0,OM 6 9] (.cond (.t 6) (SQ [OK 4 0,OK 5 1] .ret) (SQ [OM 11 1,OJ 12 .lss 11 0,OM 13 12,PU 14 1 13,OU 15 (.bin .gtr (.t 14) (IC 1099511627776)) 13,OO 16 (FX 13 15),OM 10 16] (CS 10 (SQ [OK 4 0,OK 5 2] .ret)))))) (SQ [OA 17 2 2,OO 18 (.eK 44 2 [.t 17]),OO 19 (.field false 1 0 (.t 18)),OM 20 1,OO 21 (.call (.t 19) [.t 20]),OM 4 21,OK 5 0] .ret)),false⟩
theorem zV:T 158=some sH:=by kernel_rfl
def xb:bp:=⟨[.tmp 2],SQ [OG 1 0,OQ 2 false] (SQ [OF 3 0 1,OL 4 3,OO 5 (.call (.c (.fn 160 [])) [.t 4,IC 32]),OM 6 5,OT 7 (.bZ 1 (.t 1)) 6,OT 8 (FZ 7) 6,OT 9 (.call (.c (.fn 160 [])) [.t 8,IC 32]) 6,OO 10 (FY 6 9),OM 11 10,OT 12 (.bZ 2 (.t 1)) 11,OT 13 (FZ 12) 11,OT 14 (.call (.c (.fn 160 [])) [.t 13,IC 100000]) 11,OO 15 (FY 11 14),OM 2 15] .ret),false⟩
theorem yX:T 159=some xb:=by kernel_rfl
def wm:bp:=⟨[.tmp 4],SQ [OQ 4 false] (SQ [OM 5 0,OJ 6 .geq 5 0,OM 7 6,PT 8 0 7,PT 9 1 7,OT 10 (.bin .leq (.t 8) (.t 9)) 7,OO 11 (FY 7 10),OM 4 11] .ret),false⟩
theorem AO:T 160=some wm:=by kernel_rfl
def xC:bp:=⟨[.tmp 4],SQ [OG 2 0,OK 4 0] (.seq (.drawn [DA 5 3 2,DA 6 3 2,DM 7 1,(OC 8 189 [6,7],DS),(OC 9 188 [5,8],DB),(OO 10 (.bin .add (IC 1) (.t 9)),DP),DM 4 10]) .ret),false⟩
theorem AX:T 161=some xC:=by kernel_rfl
def vk:bp:=⟨[.cell 4 true 2,.tmp 5],SQ [OG 2 0,OO 4 (.alloc [FW,FW]),OK 5 0] (.seq (SQ [OA 6 2 2,OC 7 92 [6],OJ 8 .neq 7 0,OM 9 8,PU 10 1 9,OU 11 (.bin .lss (.t 10) (IC (-2199023255552))) 9,OO 12 (FX 9 11),OM 13 12,PU 14 1 13,OU 15 (.bin .gtr (.t 14) (IC 2199023255552)) 13,OO 16 (FX 13 15)] (CS 16 (SQ [OO 17 (.build [FW,FW] []),⟨none,.store 2 (.t 4) (.t 17),none⟩,OK 5 1] .ret))) (SQ [OF 18 0 2,OL 19 18,OM 20 1,OB 21 .add 19 20,OF 22 0 2,⟨none,.store 1 (.t 22) (.t 21),none⟩] (.seq (SQ [OA 23 2 2,OC 24 92 [23],OJ 25 .neq 24 0] (CS 25 (SQ [OO 26 (.build [FW,FW] []),⟨none,.store 2 (.t 4) (.t 26),none⟩,OK 5 1] .ret))) (SQ [OA 27 2 2,⟨none,.store 2 (.t 4) (.t 27),none⟩,OK 5 0] .ret)))),false⟩
theorem AK:T 187=some vk:=by kernel_rfl
def xa:bp:=⟨[.tmp 4],SQ [OG 2 0,OK 4 0] (SQ [OM 5 1,OO 6 (.bin .mul (IC 2) (.t 5)),OF 7 2 2,OL 8 7,OB 9 .mul 6 8,OJ 10 .quo 9 1000000000,OJ 11 .add 10 2,OM 4 11] .ret),false⟩
theorem AZ:T 188=some xa:=by kernel_rfl
def xr:bp:=⟨[.tmp 4],SQ [OG 2 0,OK 4 0] (SQ [OF 6 2 2,OL 7 6,OO 8 (.bin .sub (IC 1000000000) (.t 7)),OM 5 8] (SQ [OM 9 1,OJ 10 .mul 9 10000,OJ 11 .add 10 1,OJ 12 .mul 11 1000000000,OM 13 5,OB 14 .add 12 13,OJ 15 .sub 14 1,OM 16 5,OB 17 .quo 15 16,OM 4 17] .ret)),false⟩
theorem zn:T 189=some xr:=by kernel_rfl
end Go.Sh
