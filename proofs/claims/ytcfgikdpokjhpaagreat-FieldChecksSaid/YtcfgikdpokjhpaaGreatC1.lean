
import Derived.Test.YtcfgikdpokjhpaaGreatProg
import Derived.KernelRfl
import Derived.Test.YtcfgikdpokjhpaaGreatB4
namespace Go.Sh
def pol : Pol := { keep := (fun f => match f with | 250 => some 3 | 39 => some 4 | _ => none), lit := (fun f r => match f, r with | 39, 75 => false | _, _ => true), frz := (fun _ _ => []), vrt := (fun f r => match f, r with | 31, 2 => [(2, 4)] | 133, 4 => [(5, 1)] | 51, 5 => [(4, 1)] | _, _ => []), keepAt := (fun f r => match f, r with | 210, 51 => some 4 | 84, 18 => some 3 | 47, 20 => some 6 | 82, 21 => some 3 | 141, 17 => some 3 | 105, 42 => some 2 | 133, 13 => some 1 | 51, 14 => some 1 | 66, 14 => some 2 | 67, 24 => some 2 | 67, 32 => some 2 | 11, 77 => some 1 | 138, 18 => some 2 | 17, 46 => some 1 | _, _ => none), viewAt := (fun f r => match f, r with | 11, 115 => true | 46, 53 => true | 17, 115 => true | 17, 193 => true | _, _ => false), vboxAt := (fun _ _ => none), prm := (fun f r => match f, r with | 39, 12 => true | _, _ => false), loop := (fun f r => match f, r with
  | 3, 26 => ⟨[3, 6, 180, 181, 182], []⟩
  | 3, 10 => ⟨[1, 3, 4, 6, 70, 71, 72], []⟩
  | 5, 10 => ⟨[1, 3, 4, 6, 60, 61, 62], []⟩
  | 7, 10 => ⟨[1, 3, 4, 6, 65, 66, 67], []⟩
  | 8, 18 => ⟨[2, 5, 6, 8, 9, 11, 12, 110, 111, 112], []⟩
  | 8, 9 => ⟨[2, 5, 6, 8, 9, 74, 75], []⟩
  | 11, 22 => ⟨[3, 10, 87, 88, 89], []⟩
  | 11, 15 => ⟨[3, 6, 7, 8, 10, 70, 71, 72], []⟩
  | 11, 7 => ⟨[999999, 3, 6, 7, 8, 10, 11, 45, 46, 47], []⟩
  | 17, 28 => ⟨[2, 3, 11, 13, 14, 28], []⟩
  | 17, 16 => ⟨[1, 2, 3, 9, 11, 13, 14, 15, 16, 17, 18, 19], []⟩
  | 17, 11 => ⟨[1, 2, 3, 9, 11, 13, 14, 15, 16], []⟩
  | 18, 4 => ⟨[0, 1, 12, 13], []⟩
  | 19, 4 => ⟨[0, 1, 12, 13], []⟩
  | 20, 7 => ⟨[9, 10, 25, 26, 27], [(10, 1)]⟩
  | 25, 2 => ⟨[0, 1, 7, 8], []⟩
  | 30, 5 => ⟨[0, 1, 5, 6], []⟩
  | 33, 9 => ⟨[1, 2, 3, 8, 9], [(8, 1)]⟩
  | 35, 4 => ⟨[1, 3], []⟩
  | 36, 4 => ⟨[0, 1, 12, 13], []⟩
  | 38, 8 => ⟨[3, 26, 27, 28], []⟩
  | 49, 2 => ⟨[0, 3], []⟩
  | 52, 3 => ⟨[1, 2, 3, 4, 10, 11], [(10, 4)]⟩
  | 53, 7 => ⟨[0, 3, 4, 5], []⟩
  | 53, 3 => ⟨[0, 3, 4], [(3, 1)]⟩
  | 55, 10 => ⟨[2, 4, 5, 7, 12, 13], []⟩
  | 75, 10 => ⟨[1, 5], []⟩
  | 75, 5 => ⟨[1, 3, 4], []⟩
  | 76, 9 => ⟨[1, 4], []⟩
  | 76, 4 => ⟨[1, 3], []⟩
  | 79, 9 => ⟨[0, 1, 2, 6, 7, 8], []⟩
  | 79, 7 => ⟨[0, 1, 2, 6], []⟩
  | 79, 2 => ⟨[0, 1, 2, 6, 7, 8], []⟩
  | 81, 1 => ⟨[0, 8, 9, 10], []⟩
  | 82, 10 => ⟨[2, 7, 11, 13, 14, 66, 67, 68], []⟩
  | 87, 4 => ⟨[1, 3], []⟩
  | 88, 6 => ⟨[1, 2, 6, 7], []⟩
  | 94, 8 => ⟨[0, 2, 6], []⟩
  | 95, 5 => ⟨[0, 4, 5], []⟩
  | 97, 13 => ⟨[2, 3, 7, 8], []⟩
  | 97, 6 => ⟨[2, 3, 7], []⟩
  | 101, 6 => ⟨[2, 3, 4, 5, 6, 13, 15], []⟩
  | 103, 2 => ⟨[0, 1, 2, 7], []⟩
  | 116, 4 => ⟨[1, 34, 35, 36], []⟩
  | 120, 2 => ⟨[0, 1, 7, 8], []⟩
  | 121, 2 => ⟨[0, 5, 6, 7], []⟩
  | 125, 6 => ⟨[4, 5, 7, 10, 11], []⟩
  | 127, 2 => ⟨[0, 3], []⟩
  | 131, 2 => ⟨[1, 3], []⟩
  | 134, 4 => ⟨[0, 1, 2, 3, 8, 9], []⟩
  | 134, 1 => ⟨[0, 1, 2, 3, 8], []⟩
  | 135, 33 => ⟨[0, 1, 2, 3, 4, 18, 19, 20, 21, 22], []⟩
  | 135, 21 => ⟨[0, 14, 17], []⟩
  | 135, 15 => ⟨[0, 2, 4, 14, 15], []⟩
  | 135, 9 => ⟨[0, 10, 13], []⟩
  | 135, 3 => ⟨[0, 1, 4, 10, 11], []⟩
  | 139, 2 => ⟨[1, 2, 3, 10, 11, 12], []⟩
  | 144, 1 => ⟨[0, 2, 6], []⟩
  | 145, 4 => ⟨[0, 3], []⟩
  | 149, 8 => ⟨[2, 3, 4, 5, 6, 7, 15, 16], []⟩
  | 153, 3 => ⟨[1, 2, 3, 4, 5, 11, 12], []⟩
  | 155, 2 => ⟨[0, 1, 7, 8], []⟩
  | 156, 2 => ⟨[0, 1, 7, 8], []⟩
  | 157, 2 => ⟨[0, 1, 7, 8], []⟩
  | 158, 2 => ⟨[0, 1, 7, 8], []⟩
  | 160, 2 => ⟨[0, 1, 7, 8], []⟩
  | 168, 2 => ⟨[1, 5, 6], []⟩
  | 173, 2 => ⟨[0, 1, 5], []⟩
  | 179, 2 => ⟨[0, 2, 4, 10, 11], []⟩
  | 182, 13 => ⟨[2, 3, 8, 24, 25, 26, 71, 72, 73], []⟩
  | 182, 6 => ⟨[2, 3, 24, 25, 26], []⟩
  | 187, 6 => ⟨[0, 1, 5, 6], []⟩
  | 187, 2 => ⟨[0, 1, 5], []⟩
  | 188, 2 => ⟨[0, 1, 5], []⟩
  | 191, 1 => ⟨[0, 1, 2, 6, 7], []⟩
  | 192, 2 => ⟨[0, 1, 7, 8], []⟩
  | 204, 1 => ⟨[0, 1, 2, 3, 10], []⟩
  | 211, 1 => ⟨[0, 1, 2, 3, 8, 9, 10], []⟩
  | 222, 3 => ⟨[0, 1, 5, 9, 10], []⟩
  | 226, 3 => ⟨[2, 5, 8, 9, 10], []⟩
  | 229, 2 => ⟨[0, 2, 15, 16], []⟩
  | 230, 13 => ⟨[6, 7, 41, 42], []⟩
  | 234, 4 => ⟨[0, 1, 2, 5], []⟩
  | 236, 1 => ⟨[0, 2, 3, 4, 9, 10, 11], []⟩
  | 241, 1 => ⟨[0, 2, 6], []⟩
  | 244, 3 => ⟨[0, 5, 6, 7], []⟩
  | 247, 2 => ⟨[0, 1, 3, 7], []⟩
  | 251, 1 => ⟨[0, 2, 3, 8, 9, 10], []⟩
  | _, _ => ⟨[], []⟩) }
noncomputable def T : FuncId → Option Fun1 := cfun Go.Proofs.Tryz.prog pol
set_option maxRecDepth 100000
def c3 : Fun1 := ⟨[.tmp 2],SQ [OG 1 0,OQ 2 false] (.seq (SQ [OC 17 10 [],OH 18 17] (CS 18 (SQ [OQ 2 false] .ret))) (SQ [OF 20 0 1,OA 21 13 20,OF 22 13 1,OL 23 22,OF 24 14 1,OL 25 24,OC 26 11 [21,23,25],OM 19 26,OX 27 19 0,OX 28 19 1,OX 29 19 2,OM 3 27,OM 4 28,OM 5 29] (.seq (SQ [OA 30 15 1,OC 31 12 [30],OH 32 31,OM 33 32,PU 34 5 33,OU 35 (.bin .neq (.t 34) (IC 0)) 33,OO 36 (.pick (.t 33) (.c (.bool true)) (.t 35))] (CS 36 (SQ [OM 37 3,OE 38 37,OJ 39 .eql 38 0,OM 40 39,PT 41 4 40,OT 42 (.len (.t 41)) 40,OT 43 (.bin .eql (.t 42) (IC 0)) 40,OO 44 (.pick (.t 40) (.t 43) (.c (.bool false))),OM 45 44,OU 46 (.load true 15 (.t 1)) 45,OU 47 (.call (.c (.fn 12 [])) [.t 46]) 45,OU 48 (.notB (.t 47)) 45,OO 49 (.pick (.t 45) (.c (.bool true)) (.t 48)),OM 50 49,PU 51 5 50,OU 52 (.bin .eql (.t 51) (IC 0)) 50,OO 53 (.pick (.t 50) (.c (.bool true)) (.t 52)),OM 2 53] .ret))) (.seq (SQ [OM 54 3,OE 55 54,OF 56 14 1,OL 57 56,OE 58 57,OB 59 .neq 55 58,OM 60 59,OU 61 (.faddr 0 (.t 1)) 60,OU 62 (.faddr 8 (.t 61)) 60,OU 63 (.load false 1 (.t 62)) 60,OU 64 (.len (.t 63)) 60,PU 65 3 60,OU 66 (.len (.t 65)) 60,OU 67 (.bin .neq (.t 64) (.t 66)) 60,OO 68 (.pick (.t 60) (.c (.bool true)) (.t 67))] (CS 68 (SQ [OQ 2 false] .ret))) (SQ [OO 69 .mkmap,OM 6 69] (.seq (SQ [OM 70 4,OE 71 70,OK 72 0] (.block 0 (.loop ⟨[1,3,4,6,70,71,72],[]⟩ (SQ [OB 73 .lss 72 71] (.seq (CX 73 0) (.seq (.block 1 (SQ [OI 74 4 70 72,OA 75 4 74,OO 8 (.alloc [.int .i64 0,.int .i64 0,.int .i64 0,.int .i64 0]),⟨none,.store 4 (.t 8) (.t 75),none⟩] (.seq (SQ [OF 76 0 8,OL 77 76,OJ 78 .lss 77 0,OM 79 78,OU 80 (.faddr 0 (.t 8)) 79,OU 81 (.load false 1 (.t 80)) 79,PU 82 3 79,OU 83 (.len (.t 82)) 79,OU 84 (.bin .geq (.t 81) (.t 83)) 79,OO 85 (.pick (.t 79) (.c (.bool true)) (.t 84)),OM 86 85,PU 87 6 86,OU 88 (.faddr 0 (.t 8)) 86,OU 89 (.load false 1 (.t 88)) 86,OU 90 (.mlook .i false (.bool false) (.t 87) (.t 89)) 86,OO 91 (.pick (.t 86) (.c (.bool true)) (.t 90))] (CS 91 (SQ [OQ 2 false] .ret))) (SQ [OM 92 6,OF 93 0 8,OL 94 93,⟨none,.mupd .i (.t 92) (.t 94) (.c (.bool true)),none⟩] (SQ [OF 95 14 1,OL 96 95,OF 97 0 8,OL 98 97,OI 99 14 96 98,OA 100 14 99,OO 9 (.alloc [.int .i64 0,.int .i64 0,.int .i64 0,.int .i64 0,.int .i64 0,.int .i64 0,.int .i64 0,.int .i64 0,.int .i64 0,.int .i64 0,.int .i64 0,.int .i64 0,.int .i64 0,.str (.mk (.mk []))]),⟨none,.store 14 (.t 9) (.t 100),none⟩] (.seq (SQ [OF 101 0 9,OL 102 101,OJ 103 .eql 102 1] (CS 103 (.seq (.drawn [DF 105 0 1,DF 106 8 105,DL 107 106,DF 108 0 8,DL 109 108,DI 110 2 107 109,DA 111 2 110,DF 112 13 1,DL 113 112,(OC 114 13 [111,113],DB),DM 104 114,(OX 115 104 0,DP),(OX 116 104 1,DP),DM 10 115,DM 11 116]) (SQ [OF 118 2 9,OA 119 12 118,OC 120 14 [119],OM 117 120,OX 121 117 0,OX 122 117 1,OM 12 121,OM 13 122] (.seq (SQ [OM 123 11,OJ 124 .neq 123 0,OM 125 124,PU 126 13 125,OU 127 (.bin .neq (.t 126) (IC 0)) 125,OO 128 (.pick (.t 125) (.c (.bool true)) (.t 127)),OM 129 128,OU 130 (.faddr 2 (.t 8)) 129,OU 131 (.load false 1 (.t 130)) 129,PU 132 10 129,OU 133 (.bin .neq (.t 131) (.t 132)) 129,OO 134 (.pick (.t 129) (.c (.bool true)) (.t 133)),OM 135 134,OU 136 (.faddr 3 (.t 8)) 135,OU 137 (.load false 1 (.t 136)) 135,PU 138 10 135,PU 139 12 135,OU 140 (.bin .add (.t 138) (.t 139)) 135,OU 141 (.bin .neq (.t 137) (.t 140)) 135,OO 142 (.pick (.t 135) (.c (.bool true)) (.t 141))] (CS 142 (SQ [OQ 2 false] .ret))) (.exit 1)))))) (SQ [OM 143 3,OF 144 0 8,OL 145 144,OI 146 15 143 145,OA 147 15 146,OO 14 (.alloc [.bool false,.bool false,.int .i64 0,.int .i64 0,.int .i64 0,.int .i64 0,.int .i64 0,.int .i64 0,.int .i64 0,.int .i64 0,.int .i64 0,.int .i64 0,.int .i64 0,.str (.mk (.mk [])),.int .i64 0]),⟨none,.store 15 (.t 14) (.t 147),none⟩] (SQ [OF 148 0 9,OL 149 148,OJ 150 .neq 149 2,OM 151 150,OU 152 (.faddr 1 (.t 14)) 151,OU 153 (.load false 1 (.t 152)) 151,OU 154 (.notB (.t 153)) 151,OO 155 (.pick (.t 151) (.c (.bool true)) (.t 154)),OM 156 155,OU 157 (.faddr 2 (.t 14)) 156,OU 158 (.faddr 2 (.t 157)) 156,OU 159 (.load false 1 (.t 158)) 156,OU 160 (.faddr 0 (.t 8)) 156,OU 161 (.load false 1 (.t 160)) 156,OU 162 (.bin .neq (.t 159) (.t 161)) 156,OO 163 (.pick (.t 156) (.c (.bool true)) (.t 162)),OM 164 163,OU 165 (.faddr 3 (.t 8)) 164,OU 166 (.load false 1 (.t 165)) 164,OU 167 (.faddr 2 (.t 8)) 164,OU 168 (.load false 1 (.t 167)) 164,OU 169 (.bin .sub (.t 166) (.t 168)) 164,OU 170 (.bin .neq (.t 169) (IC 832)) 164,OO 171 (.pick (.t 164) (.c (.bool true)) (.t 170)),OM 172 171,PU 173 4 172,OU 174 (.mkfn 16 [.t 14,.t 8]) 172,OU 175 (.call (.c (.fn 15 [])) [.t 173,.t 174]) 172,OU 176 (.notB (.t 175)) 172,OO 177 (.pick (.t 172) (.c (.bool true)) (.t 176))] (CS 177 (SQ [OQ 2 false] .ret)))))))))) (.ops [OJ 178 .add 72 1,OM 72 178]))))))) (.seq (SQ [OF 179 14 1,OL 180 179,OE 181 180,OK 182 0] (.block 2 (.loop ⟨[3,6,180,181,182],[]⟩ (SQ [OB 183 .lss 182 181] (.seq (CX 183 2) (.seq (.block 3 (SQ [OM 184 182,OI 185 14 180 182,OA 186 14 185,OO 16 (.alloc [.int .i64 0,.int .i64 0,.int .i64 0,.int .i64 0,.int .i64 0,.int .i64 0,.int .i64 0,.int .i64 0,.int .i64 0,.int .i64 0,.int .i64 0,.int .i64 0,.int .i64 0,.str (.mk (.mk []))]),OM 15 184,⟨none,.store 14 (.t 16) (.t 186),none⟩] (.seq (.drawn [DF 187 0 16,DL 188 187,(OJ 189 .eql 188 1,DP),DM 190 189,(PU 191 3 190,DP),(PU 192 15 190,DP),(OU 193 (.iaddrS 15 (.t 191) (.t 192)) 190,DS),(OU 194 (.faddr 1 (.t 193)) 190,DS),(OU 195 (.load false 1 (.t 194)) 190,DS),(PU 196 195 190,DP),(PT 197 3 196,DP),(PT 198 15 196,DP),(OT 199 (.iaddrS 15 (.t 197) (.t 198)) 196,DS),(OT 200 (.faddr 2 (.t 199)) 196,DS),(OT 201 (.faddr 2 (.t 200)) 196,DS),(OT 202 (.load false 1 (.t 201)) 196,DS),(PT 203 15 196,DP),(OT 204 (.bin .eql (.t 202) (.t 203)) 196,DP),(OU 205 (.pick (.t 196) (.t 204) (.c (.bool false))) 190,DP),(OO 206 (.pick (.t 190) (.c (.bool true)) (.t 205)),DP),DM 207 6,DM 208 15,(OO 209 (.mlook .i false (.bool false) (.t 207) (.t 208)),DS),(OO 210 (.binB .neq (.t 206) (.t 209)),DP)]) (CS 210 (SQ [OQ 2 false] .ret))))) (.ops [OJ 211 .add 182 1,OM 182 211]))))))) (SQ [OQ 2 true] .ret)))))))),false⟩
theorem e3 : T 3 = some c3 := by kernel_rfl
def c4 : Fun1 := ⟨[.tmp 2],SQ [OG 1 0,OQ 2 false] (.seq (SQ [OC 9 10 [],OH 10 9] (CS 10 (SQ [OQ 2 false] .ret))) (.seq (SQ [OA 11 15 1,OC 12 12 [11],OH 13 12] (CS 13 (SQ [OQ 2 true] .ret))) (SQ [OF 15 0 1,OA 16 13 15,OF 17 13 1,OL 18 17,OF 19 14 1,OL 20 19,OC 21 11 [16,18,20],OM 14 21,OX 22 14 0,OX 23 14 1,OX 24 14 2,OM 3 22,OM 4 23,OM 5 24] (SQ [OF 26 0 1,OA 27 13 26,OF 28 13 1,OL 29 28,OF 30 14 1,OL 31 30,OC 32 17 [27,29,31],OM 25 32,OX 33 25 0,OX 34 25 1,OX 35 25 2,OM 6 33,OM 7 34,OM 8 35] (SQ [OM 36 5,OM 37 8,OB 38 .eql 36 37,OM 39 38,PT 40 3 39,PT 41 6 39,OT 42 (.call (.c (.fn 18 [])) [.t 40,.t 41]) 39,OO 43 (.pick (.t 39) (.t 42) (.c (.bool false))),OM 44 43,PT 45 4 44,PT 46 7 44,OT 47 (.call (.c (.fn 19 [])) [.t 45,.t 46]) 44,OO 48 (.pick (.t 44) (.t 47) (.c (.bool false))),OM 2 48] .ret))))),false⟩
theorem e4 : T 4 = some c4 := by kernel_rfl
def c5 : Fun1 := ⟨[.tmp 2],SQ [OG 1 0,OQ 2 false] (.seq (SQ [OC 11 10 [],OH 12 11] (CS 12 (SQ [OQ 2 false] .ret))) (SQ [OF 14 0 1,OA 15 13 14,OF 16 13 1,OL 17 16,OF 18 14 1,OL 19 18,OC 20 11 [15,17,19],OM 13 20,OX 21 13 0,OX 22 13 1,OX 23 13 2,OM 3 21,OM 4 22,OM 5 23] (.seq (SQ [OA 24 15 1,OC 25 12 [24],OH 26 25,OM 27 26,PU 28 5 27,OU 29 (.bin .neq (.t 28) (IC 0)) 27,OO 30 (.pick (.t 27) (.c (.bool true)) (.t 29))] (CS 30 (SQ [OQ 2 true] .ret))) (SQ [OF 32 0 1,OA 33 13 32,OF 34 13 1,OL 35 34,OF 36 14 1,OL 37 36,OC 38 20 [33,35,37],OM 31 38,OX 39 31 0,OX 40 31 1,OM 6 39,OM 7 40] (.seq (SQ [OM 41 7,OJ 42 .neq 41 0,OM 43 42,PU 44 3 43,OU 45 (.len (.t 44)) 43,OU 46 (.faddr 14 (.t 1)) 43,OU 47 (.load false 1 (.t 46)) 43,OU 48 (.len (.t 47)) 43,OU 49 (.bin .neq (.t 45) (.t 48)) 43,OO 50 (.pick (.t 43) (.c (.bool true)) (.t 49)),OM 51 50,PU 52 6 51,OU 53 (.len (.t 52)) 51,OU 54 (.faddr 14 (.t 1)) 51,OU 55 (.load false 1 (.t 54)) 51,OU 56 (.len (.t 55)) 51,OU 57 (.bin .neq (.t 53) (.t 56)) 51,OO 58 (.pick (.t 51) (.c (.bool true)) (.t 57))] (CS 58 (SQ [OQ 2 false] .ret))) (.seq (SQ [OF 59 14 1,OL 60 59,OE 61 60,OK 62 0] (.block 0 (.loop ⟨[1,3,4,6,60,61,62],[]⟩ (SQ [OB 63 .lss 62 61] (.seq (CX 63 0) (.seq (.block 1 (SQ [OM 64 62,OI 65 14 60 62,OA 66 14 65,OO 9 (.alloc [.int .i64 0,.int .i64 0,.int .i64 0,.int .i64 0,.int .i64 0,.int .i64 0,.int .i64 0,.int .i64 0,.int .i64 0,.int .i64 0,.int .i64 0,.int .i64 0,.int .i64 0,.str (.mk (.mk []))]),OM 8 64,⟨none,.store 14 (.t 9) (.t 66),none⟩] (.seq (SQ [OM 67 3,OM 68 8,OI 69 15 67 68,OF 70 0 69,OL 71 70,OH 72 71] (CS 72 (.exit 1))) (SQ [OF 73 2 9,OF 74 2 73,OL 75 74,OO 10 (.alloc [.int .i64 0]),⟨none,.store 1 (.t 10) (.t 75),none⟩] (.seq (.drawn [(OF 76 0 9,DB),(OL 77 76,DB),(OJ 78 .neq 77 1,DP),DM 79 78,(OU 80 (.load false 1 (.t 10)) 79,DB),(OU 81 (.bin .lss (.t 80) (IC 0)) 79,DP),(OO 82 (.pick (.t 79) (.c (.bool true)) (.t 81)),DP),DM 83 82,(OU 84 (.load false 1 (.t 10)) 83,DS),(PU 85 3 83,DP),(OU 86 (.len (.t 85)) 83,DS),(OU 87 (.bin .geq (.t 84) (.t 86)) 83,DP),(OO 88 (.pick (.t 83) (.c (.bool true)) (.t 87)),DP),DM 89 88,(OU 90 (.faddr 14 (.t 1)) 89,DS),(OU 91 (.load false 1 (.t 90)) 89,DS),(OU 92 (.load false 1 (.t 10)) 89,DS),(OU 93 (.iaddrS 14 (.t 91) (.t 92)) 89,DB),(OU 94 (.faddr 0 (.t 93)) 89,DB),(OU 95 (.load false 1 (.t 94)) 89,DB),(OU 96 (.bin .neq (.t 95) (IC 2)) 89,DP),(OO 97 (.pick (.t 89) (.c (.bool true)) (.t 96)),DP),DM 98 97,(PU 99 6 98,DP),(OU 100 (.load false 1 (.t 10)) 98,DS),(OU 101 (.iaddrS 1 (.t 99) (.t 100)) 98,DS),(OU 102 (.load false 1 (.t 101)) 98,DS),(PU 103 6 98,DP),(PU 104 8 98,DP),(OU 105 (.iaddrS 1 (.t 103) (.t 104)) 98,DS),(OU 106 (.load false 1 (.t 105)) 98,DS),(OU 107 (.bin .neq (.t 102) (.t 106)) 98,DP),(OO 108 (.pick (.t 98) (.c (.bool true)) (.t 107)),DP),DM 109 108,(PU 110 3 109,DP),(OU 111 (.load false 1 (.t 10)) 109,DS),(OU 112 (.iaddrS 15 (.t 110) (.t 111)) 109,DS),(OU 113 (.load true 15 (.t 112)) 109,DS),(OU 114 (.faddr 2 (.t 9)) 109,DS),(OU 115 (.load true 12 (.t 114)) 109,DS),(PU 116 3 109,DP),(PU 117 8 109,DP),(OU 118 (.iaddrS 15 (.t 116) (.t 117)) 109,DS),(OU 119 (.faddr 14 (.t 118)) 109,DS),(OU 120 (.load false 1 (.t 119)) 109,DS),(OU 121 (.build [.bool false,.bool false,.int .i64 0,.int .i64 0,.int .i64 0,.int .i64 0,.int .i64 0,.int .i64 0,.int .i64 0,.int .i64 0,.int .i64 0,.int .i64 0,.int .i64 0,.str (.mk (.mk [])),.int .i64 0] [(1,(1,.c (.bool true))),(2,(12,.t 115)),(14,(1,.t 120))]) 109,DP),(OU 122 (.eqAgg true [.b,.b,.i,.i,.i,.i,.i,.i,.i,.i,.i,.i,.i,.s,.i] (.t 113) (.t 121)) 109,DP),(OO 123 (.pick (.t 109) (.c (.bool true)) (.t 122)),DP),DM 124 123,(PU 125 4 124,DP),(OU 126 (.mkfn 21 [.t 10]) 124,DP),(OU 127 (.call (.c (.fn 15 [])) [.t 125,.t 126]) 124,DB),(OU 128 (.notB (.t 127)) 124,DP),(OO 129 (.pick (.t 124) (.c (.bool true)) (.t 128)),DP)]) (CS 129 (SQ [OQ 2 false] .ret))))))) (.ops [OJ 130 .add 62 1,OM 62 130]))))))) (SQ [OQ 2 true] .ret))))))),false⟩
theorem e5 : T 5 = some c5 := by kernel_rfl
def c6 : Fun1 := ⟨[.tmp 8],SQ [OG 4 0,OQ 8 false] (.seq (SQ [OC 20 10 [],OH 21 20] (CS 21 (SQ [OQ 8 false] .ret))) (.seq (SQ [OA 22 15 4,OC 23 12 [22],OH 24 23,OM 25 24,OU 26 (.faddr 0 (.t 4)) 25,OU 27 (.load true 13 (.t 26)) 25,OU 28 (.call (.c (.fn 22 [])) [.t 27]) 25,OU 29 (.bin .neq (.t 28) (IC 0)) 25,OO 30 (.pick (.t 25) (.c (.bool true)) (.t 29)),OM 31 30,OU 32 (.faddr 0 (.t 4)) 31,OU 33 (.faddr 8 (.t 32)) 31,OU 34 (.load false 1 (.t 33)) 31,OU 35 (.len (.t 34)) 31,OU 36 (.bin .eql (.t 35) (IC 0)) 31,OO 37 (.pick (.t 31) (.c (.bool true)) (.t 36)),OM 38 37,OU 39 (.faddr 0 (.t 4)) 38,OU 40 (.faddr 9 (.t 39)) 38,OU 41 (.faddr 3 (.t 40)) 38,OU 42 (.load false 1 (.t 41)) 38,OU 43 (.len (.t 42)) 38,OU 44 (.bin .eql (.t 43) (IC 0)) 38,OO 45 (.pick (.t 38) (.c (.bool true)) (.t 44))] (CS 45 (SQ [OQ 8 true] .ret))) (SQ [OF 46 0 4,OF 47 8 46,OL 48 47,OE 49 48,OM 9 49] (.seq (.drawn [DM 50 1,(OO 51 (.convI .i64 (.t 50)),DP),DM 52 9,DD 53 .rem 51 52,DM 54 2,(OO 55 (.convI .i64 (.t 54)),DP),DM 56 9,DD 57 .rem 55 56,DM 10 53,DM 11 57]) (.seq (SQ [OM 58 10,OM 59 11,OB 60 .eql 58 59] (CS 60 (SQ [OQ 8 true] .ret))) (SQ [OO 61 (.build [.lst 0 [] true,.lst 0 [] true] []),OF 62 0 4,OF 63 6 62,⟨none,.store 2 (.t 63) (.t 61),none⟩] (SQ [OM 64 9,OO 65 (.mkslice 14 [.int .i64 0,.int .i64 0,.int .i64 0,.int .i64 0,.int .i64 0,.int .i64 0,.int .i64 0,.int .i64 0,.int .i64 0,.int .i64 0,.int .i64 0,.int .i64 0,.int .i64 0,.str (.mk (.mk []))] 120 (.t 64) (.t 64)),OM 12 65] (SQ [OM 66 3,OO 67 (.convI .i64 (.t 66)),OF 68 0 4,OF 69 9 68,OF 70 3 69,OL 71 70,OE 72 71,OB 73 .rem 67 72,OM 13 73] (SQ [OM 74 12,OM 75 10,OM 76 13,OM 77 10,OM 78 11,OO 79 (.build [.int .i64 0,.int .i64 0,.int .i64 0,.int .i64 0,.int .i64 0,.int .i64 0,.int .i64 0,.int .i64 0,.int .i64 0,.int .i64 0,.int .i64 0,.str (.mk (.mk []))] [(0,(1,IC 4)),(1,(1,.t 77)),(2,(1,.t 78))]),OO 80 (.build [.int .i64 0,.int .i64 0,.int .i64 0,.int .i64 0,.int .i64 0,.int .i64 0,.int .i64 0,.int .i64 0,.int .i64 0,.int .i64 0,.int .i64 0,.int .i64 0,.int .i64 0,.str (.mk (.mk []))] [(0,(1,IC 1)),(1,(1,.t 76)),(2,(12,.t 79))]),OI 81 14 74 75,⟨none,.store 14 (.t 81) (.t 80),none⟩] (SQ [OM 82 12,OM 83 11,OM 84 13,OO 85 (.build [.int .i64 0,.int .i64 0,.int .i64 0,.int .i64 0,.int .i64 0,.int .i64 0,.int .i64 0,.int .i64 0,.int .i64 0,.int .i64 0,.int .i64 0,.int .i64 0,.int .i64 0,.str (.mk (.mk []))] [(0,(1,IC 2)),(1,(1,.t 84))]),OI 86 14 82 83,⟨none,.store 14 (.t 86) (.t 85),none⟩] (SQ [OF 88 0 4,OA 89 13 88,OF 90 13 4,OL 91 90,OM 92 12,OC 93 11 [89,91,92],OM 87 93,OX 94 87 0,OX 95 87 1,OX 96 87 2,OM 14 94,OM 15 95,OM 16 96] (SQ [OF 98 0 4,OA 99 13 98,OF 100 13 4,OL 101 100,OM 102 10,OM 103 11,OC 104 23 [99,101,102,103],OM 97 104,OX 105 97 0,OX 106 97 1,OM 17 105,OM 18 106] (.seq (SQ [OM 107 16,OJ 108 .neq 107 0,OM 109 108,PU 110 18 109,OU 111 (.bin .neq (.t 110) (IC 0)) 109,OO 112 (.pick (.t 109) (.c (.bool true)) (.t 111))] (CS 112 (SQ [OM 113 16,OJ 114 .neq 113 0,OM 8 114] .ret))) (SQ [OF 115 0 4,OF 116 0 115,OA 117 6 116,OM 118 10,OM 119 11,OC 120 24 [117,118,119],OM 19 120] (.seq (.drawn [DM 121 14,(OE 122 121,DB),DM 123 9,DD 124 .eql 122 123,DM 125 124,(PT 126 14 125,DP),(PT 127 11 125,DP),(OT 128 (.iaddrS 15 (.t 126) (.t 127)) 125,DB),(OT 129 (.faddr 1 (.t 128)) 125,DB),(OT 130 (.load false 1 (.t 129)) 125,DB),(PT 131 17 125,DP),(PT 132 131 125,DP),(PT 133 19 132,DP),(OT 134 (.pick (.t 132) (.t 133) (.c (.bool false))) 125,DP),(OT 135 (.binB .eql (.t 130) (.t 134)) 125,DP),(OO 136 (.pick (.t 125) (.t 135) (.c (.bool false))),DP),DM 137 136,(PT 138 14 137,DP),(PT 139 10 137,DP),(OT 140 (.iaddrS 15 (.t 138) (.t 139)) 137,DS),(OT 141 (.faddr 0 (.t 140)) 137,DS),(OT 142 (.load false 1 (.t 141)) 137,DS),(PT 143 17 137,DP),(PT 144 143 137,DP),(PT 145 19 144,DP),(OT 146 (.pick (.t 144) (.t 145) (.c (.bool false))) 137,DP),(PT 147 146 137,DP),(OT 148 (.faddr 0 (.t 4)) 147,DS),(OT 149 (.faddr 0 (.t 148)) 147,DS),(OT 150 (.load true 6 (.t 149)) 147,DS),(PT 151 11 147,DP),(PT 152 10 147,DP),(OT 153 (.call (.c (.fn 24 [])) [.t 150,.t 151,.t 152]) 147,DS),(OT 154 (.pick (.t 147) (.t 153) (.c (.bool false))) 137,DP),(OT 155 (.binB .eql (.t 142) (.t 154)) 137,DP),(OO 156 (.pick (.t 137) (.t 155) (.c (.bool false))),DP),DM 8 156]) .ret))))))))))))))),false⟩
theorem e6 : T 6 = some c6 := by kernel_rfl
def c7 : Fun1 := ⟨[.tmp 2],SQ [OG 1 0,OQ 2 false] (.seq (SQ [OC 16 10 [],OH 17 16] (CS 17 (SQ [OQ 2 false] .ret))) (SQ [OF 19 0 1,OA 20 13 19,OF 21 13 1,OL 22 21,OF 23 14 1,OL 24 23,OC 25 11 [20,22,24],OM 18 25,OX 26 18 0,OX 27 18 1,OX 28 18 2,OM 3 26,OM 4 27,OM 5 28] (.seq (SQ [OA 29 15 1,OC 30 12 [29],OH 31 30,OM 32 31,PU 33 5 32,OU 34 (.bin .neq (.t 33) (IC 0)) 32,OO 35 (.pick (.t 32) (.c (.bool true)) (.t 34))] (CS 35 (SQ [OQ 2 true] .ret))) (SQ [OF 37 0 1,OA 38 13 37,OF 39 13 1,OL 40 39,OF 41 14 1,OL 42 41,OC 43 20 [38,40,42],OM 36 43,OX 44 36 0,OX 45 36 1,OM 6 44,OM 7 45] (.seq (SQ [OM 46 7,OJ 47 .neq 46 0,OM 48 47,PU 49 3 48,OU 50 (.len (.t 49)) 48,OU 51 (.faddr 14 (.t 1)) 48,OU 52 (.load false 1 (.t 51)) 48,OU 53 (.len (.t 52)) 48,OU 54 (.bin .neq (.t 50) (.t 53)) 48,OO 55 (.pick (.t 48) (.c (.bool true)) (.t 54)),OM 56 55,PU 57 6 56,OU 58 (.len (.t 57)) 56,OU 59 (.faddr 14 (.t 1)) 56,OU 60 (.load false 1 (.t 59)) 56,OU 61 (.len (.t 60)) 56,OU 62 (.bin .neq (.t 58) (.t 61)) 56,OO 63 (.pick (.t 56) (.c (.bool true)) (.t 62))] (CS 63 (SQ [OQ 2 false] .ret))) (.seq (SQ [OF 64 14 1,OL 65 64,OE 66 65,OK 67 0] (.block 0 (.loop ⟨[1,3,4,6,65,66,67],[]⟩ (SQ [OB 68 .lss 67 66] (.seq (CX 68 0) (.seq (.block 1 (SQ [OM 69 67,OI 70 14 65 67,OA 71 14 70,OO 9 (.alloc [.int .i64 0,.int .i64 0,.int .i64 0,.int .i64 0,.int .i64 0,.int .i64 0,.int .i64 0,.int .i64 0,.int .i64 0,.int .i64 0,.int .i64 0,.int .i64 0,.int .i64 0,.str (.mk (.mk []))]),OM 8 69,⟨none,.store 14 (.t 9) (.t 71),none⟩] (.seq (SQ [OM 72 3,OM 73 8,OI 74 15 72 73,OF 75 1 74,OL 76 75,OH 77 76] (CS 77 (.exit 1))) (SQ [OM 78 3,OM 79 8,OI 80 15 78 79,OF 81 2 80,OF 82 1 81,OL 83 82,OO 10 (.alloc [.int .i64 0]),⟨none,.store 1 (.t 10) (.t 83),none⟩] (.seq (.seq (.drawn [(OF 84 0 9,DB),(OL 85 84,DB),(OJ 86 .neq 85 2,DP),DM 87 86,(OU 88 (.load false 1 (.t 10)) 87,DB),(OU 89 (.bin .lss (.t 88) (IC 0)) 87,DP),(OO 90 (.pick (.t 87) (.c (.bool true)) (.t 89)),DP),DM 91 90,(OU 92 (.load false 1 (.t 10)) 91,DS),(PU 93 3 91,DP),(OU 94 (.len (.t 93)) 91,DS),(OU 95 (.bin .geq (.t 92) (.t 94)) 91,DP),(OO 96 (.pick (.t 91) (.c (.bool true)) (.t 95)),DP),DM 97 96,(OU 98 (.faddr 14 (.t 1)) 97,DS),(OU 99 (.load false 1 (.t 98)) 97,DS),(OU 100 (.load false 1 (.t 10)) 97,DS),(OU 101 (.iaddrS 14 (.t 99) (.t 100)) 97,DB),(OU 102 (.faddr 0 (.t 101)) 97,DB),(OU 103 (.load false 1 (.t 102)) 97,DB),(OU 104 (.bin .neq (.t 103) (IC 1)) 97,DP),(OO 105 (.pick (.t 97) (.c (.bool true)) (.t 104)),DP),DM 106 105,(OU 107 (.faddr 14 (.t 1)) 106,DS),(OU 108 (.load false 1 (.t 107)) 106,DS),(OU 109 (.load false 1 (.t 10)) 106,DS),(OU 110 (.iaddrS 14 (.t 108) (.t 109)) 106,DS),(OU 111 (.faddr 2 (.t 110)) 106,DS),(OU 112 (.load true 12 (.t 111)) 106,DS),(PU 113 3 106,DP),(PU 114 8 106,DP),(OU 115 (.iaddrS 15 (.t 113) (.t 114)) 106,DS),(OU 116 (.faddr 2 (.t 115)) 106,DS),(OU 117 (.load true 12 (.t 116)) 106,DS),(OU 118 (.eqAgg true [.i,.i,.i,.i,.i,.i,.i,.i,.i,.i,.i,.s] (.t 112) (.t 117)) 106,DP),(OO 119 (.pick (.t 106) (.c (.bool true)) (.t 118)),DP),DM 120 119,(PU 121 6 120,DP),(OU 122 (.load false 1 (.t 10)) 120,DS),(OU 123 (.iaddrS 1 (.t 121) (.t 122)) 120,DS),(OU 124 (.load false 1 (.t 123)) 120,DS),(PU 125 6 120,DP),(PU 126 8 120,DP),(OU 127 (.iaddrS 1 (.t 125) (.t 126)) 120,DS),(OU 128 (.load false 1 (.t 127)) 120,DS),(OU 129 (.bin .neq (.t 124) (.t 128)) 120,DP),(OO 130 (.pick (.t 120) (.c (.bool true)) (.t 129)),DP),DM 131 130,(PU 132 3 131,DP),(PU 133 8 131,DP),(OU 134 (.iaddrS 15 (.t 132) (.t 133)) 131,DB),(OU 135 (.faddr 14 (.t 134)) 131,DB),(OU 136 (.load false 1 (.t 135)) 131,DB),(OU 137 (.bin .gtr (.t 136) (IC 1100)) 131,DP),(OO 138 (.pick (.t 131) (.c (.bool true)) (.t 137)),DP),DM 139 138,(PU 140 3 139,DP),(PU 141 8 139,DP),(OU 142 (.iaddrS 15 (.t 140) (.t 141)) 139,DB),(OU 143 (.faddr 14 (.t 142)) 139,DB),(OU 144 (.load false 1 (.t 143)) 139,DB),(OU 145 (.bin .lss (.t 144) (IC (-1100))) 139,DP),(OO 146 (.pick (.t 139) (.c (.bool true)) (.t 145)),DP)]) (CS 146 (SQ [OQ 2 false] .ret))) (SQ [OF 148 0 1,OA 149 13 148,OF 150 13 1,OL 151 150,OL 152 10,OM 153 8,OC 154 23 [149,151,152,153],OM 147 154,OX 155 147 0,OX 156 147 1,OM 11 155,OM 12 156] (SQ [OM 157 4,OO 158 (.mkfn 26 [.t 10]),OC 159 25 [157,158],OM 13 159] (.seq (SQ [OM 160 12,OJ 161 .neq 160 0,OM 162 161,PU 163 11 162,OU 164 (.notB (.t 163)) 162,OO 165 (.pick (.t 162) (.c (.bool true)) (.t 164)),OM 166 165,PU 167 13 166,OU 168 (.bin .lss (.t 167) (IC 0)) 166,OO 169 (.pick (.t 166) (.c (.bool true)) (.t 168))] (CS 169 (SQ [OQ 2 false] .ret))) (.seq (.drawn [DF 171 0 1,DF 172 8 171,DL 173 172,DM 174 8,DI 175 2 173 174,DA 176 2 175,DM 177 4,DM 178 13,DI 179 4 177 178,DF 180 2 179,DL 181 180,(OC 182 27 [176,181],DB),DM 170 182,(OX 183 170 0,DP),(OX 184 170 1,DP),DM 14 183,DM 15 184]) (.seq (.drawn [DM 185 15,(OJ 186 .neq 185 0,DP),DM 187 186,(PU 188 3 187,DP),(PU 189 8 187,DP),(OU 190 (.iaddrS 15 (.t 188) (.t 189)) 187,DS),(OU 191 (.faddr 14 (.t 190)) 187,DS),(OU 192 (.load false 1 (.t 191)) 187,DS),(PU 193 14 187,DP),(OU 194 (.faddr 13 (.t 1)) 187,DS),(OU 195 (.load false 1 (.t 194)) 187,DS),(OU 196 (.bin .mul (.t 195) (IC 10000)) 187,DP),(OU 197 (.bin .sub (.t 193) (.t 196)) 187,DP),(OU 198 (.bin .sub (.t 197) (IC 2120)) 187,DP),(OU 199 (.bin .neq (.t 192) (.t 198)) 187,DP),(OO 200 (.pick (.t 187) (.c (.bool true)) (.t 199)),DP)]) (CS 200 (SQ [OQ 2 false] .ret)))))))))))) (.ops [OJ 201 .add 67 1,OM 67 201]))))))) (SQ [OQ 2 true] .ret))))))),false⟩
theorem e7 : T 7 = some c7 := by kernel_rfl
def c8 : Fun1 := ⟨[.tmp 4],SQ [OG 2 0,OQ 4 false] (.seq (SQ [OC 19 10 [],OH 20 19] (CS 20 (SQ [OQ 4 false] .ret))) (SQ [OF 22 0 2,OA 23 13 22,OF 24 13 2,OL 25 24,OF 26 14 2,OL 27 26,OC 28 11 [23,25,27],OM 21 28,OX 29 21 0,OX 30 21 1,OX 31 21 2,OM 5 29,OM 6 30,OM 7 31] (.seq (SQ [OA 32 15 2,OC 33 12 [32],OH 34 33,OM 35 34,PU 36 7 35,OU 37 (.bin .neq (.t 36) (IC 0)) 35,OO 38 (.pick (.t 35) (.c (.bool true)) (.t 37)),OM 39 38,PU 40 5 39,OU 41 (.len (.t 40)) 39,OU 42 (.faddr 14 (.t 2)) 39,OU 43 (.load false 1 (.t 42)) 39,OU 44 (.len (.t 43)) 39,OU 45 (.bin .neq (.t 41) (.t 44)) 39,OO 46 (.pick (.t 39) (.c (.bool true)) (.t 45)),OM 47 46,OU 48 (.faddr 0 (.t 2)) 47,OU 49 (.faddr 9 (.t 48)) 47,OU 50 (.faddr 3 (.t 49)) 47,OU 51 (.load false 1 (.t 50)) 47,OU 52 (.len (.t 51)) 47,OU 53 (.bin .eql (.t 52) (IC 0)) 47,OO 54 (.pick (.t 47) (.c (.bool true)) (.t 53))] (CS 54 (SQ [OM 55 7,OJ 56 .neq 55 0,OM 57 56,OU 58 (.load true 15 (.t 2)) 57,OU 59 (.call (.c (.fn 12 [])) [.t 58]) 57,OU 60 (.notB (.t 59)) 57,OO 61 (.pick (.t 57) (.c (.bool true)) (.t 60)),OM 4 61] .ret))) (SQ [OM 62 1,OO 63 (.convI .i64 (.t 62)),OF 64 0 2,OF 65 9 64,OF 66 3 65,OL 67 66,OE 68 67,OB 69 .rem 63 68,OM 8 69] (SQ [OF 70 14 2,OL 71 70,OC 72 28 [71],OM 9 72] (.seq (SQ [OM 73 9,OE 74 73,OK 75 0] (.block 0 (.loop ⟨[2,5,6,8,9,74,75],[]⟩ (SQ [OB 76 .lss 75 74] (.seq (CX 76 0) (.seq (.block 1 (SQ [OM 77 75,OM 10 77] (SQ [OM 78 9,OM 79 10,OI 80 14 78 79,OF 81 1 80,OL 82 81,OM 83 8,OB 84 .neq 82 83] (CS 84 (.ops [OM 85 9,OM 86 10,OO 87 (.build [.int .i64 0,.int .i64 0,.int .i64 0,.int .i64 0,.int .i64 0,.int .i64 0,.int .i64 0,.int .i64 0,.int .i64 0,.int .i64 0,.int .i64 0,.int .i64 0,.int .i64 0,.str (.mk (.mk []))] []),OI 88 14 85 86,⟨none,.store 14 (.t 88) (.t 87),none⟩]))))) (.ops [OJ 89 .add 75 1,OM 75 89]))))))) (SQ [OF 91 0 2,OA 92 13 91,OF 93 13 2,OL 94 93,OM 95 9,OC 96 11 [92,94,95],OM 90 96,OX 97 90 0,OX 98 90 1,OX 99 90 2,OM 11 97,OM 12 98,OM 13 99] (.seq (SQ [OM 100 13,OJ 101 .neq 100 0,OM 102 101,PU 103 11 102,OU 104 (.len (.t 103)) 102,PU 105 5 102,OU 106 (.len (.t 105)) 102,OU 107 (.bin .neq (.t 104) (.t 106)) 102,OO 108 (.pick (.t 102) (.c (.bool true)) (.t 107))] (CS 108 (SQ [OQ 4 false] .ret))) (.seq (SQ [OF 109 14 2,OL 110 109,OE 111 110,OK 112 0] (.block 2 (.loop ⟨[2,5,6,8,9,11,12,110,111,112],[]⟩ (SQ [OB 113 .lss 112 111] (.seq (CX 113 2) (.seq (.block 3 (SQ [OM 114 112,OI 115 14 110 112,OA 116 14 115,OO 15 (.alloc [.int .i64 0,.int .i64 0,.int .i64 0,.int .i64 0,.int .i64 0,.int .i64 0,.int .i64 0,.int .i64 0,.int .i64 0,.int .i64 0,.int .i64 0,.int .i64 0,.int .i64 0,.str (.mk (.mk []))]),OM 14 114,⟨none,.store 14 (.t 15) (.t 116),none⟩] (.seq (.drawn [(OF 117 0 15,DB),(OL 118 117,DB),(OJ 119 .neq 118 0,DP),DM 120 119,(OT 121 (.faddr 1 (.t 15)) 120,DB),(OT 122 (.load false 1 (.t 121)) 120,DB),(PT 123 8 120,DP),(OT 124 (.bin .eql (.t 122) (.t 123)) 120,DP),(OO 125 (.pick (.t 120) (.t 124) (.c (.bool false))),DP),DM 126 125,(PT 127 5 126,DP),(PT 128 14 126,DP),(OT 129 (.iaddrS 15 (.t 127) (.t 128)) 126,DS),(OT 130 (.load true 15 (.t 129)) 126,DS),(PT 131 11 126,DP),(PT 132 14 126,DP),(OT 133 (.iaddrS 15 (.t 131) (.t 132)) 126,DS),(OT 134 (.load true 15 (.t 133)) 126,DS),(OT 135 (.eqAgg true [.b,.b,.i,.i,.i,.i,.i,.i,.i,.i,.i,.i,.i,.s,.i] (.t 130) (.t 134)) 126,DP),(OO 136 (.pick (.t 126) (.t 135) (.c (.bool false))),DP),DM 137 136,(PU 138 9 137,DP),(PU 139 14 137,DP),(OU 140 (.iaddrS 14 (.t 138) (.t 139)) 137,DB),(OU 141 (.faddr 0 (.t 140)) 137,DB),(OU 142 (.load false 1 (.t 141)) 137,DB),(OU 143 (.bin .eql (.t 142) (IC 0)) 137,DP),(PU 144 143 137,DP),(PT 145 11 144,DP),(PT 146 14 144,DP),(OT 147 (.iaddrS 15 (.t 145) (.t 146)) 144,DB),(OT 148 (.load true 15 (.t 147)) 144,DB),(OT 149 (.build [.bool false,.bool false,.int .i64 0,.int .i64 0,.int .i64 0,.int .i64 0,.int .i64 0,.int .i64 0,.int .i64 0,.int .i64 0,.int .i64 0,.int .i64 0,.int .i64 0,.str (.mk (.mk [])),.int .i64 0] []) 144,DP),(OT 150 (.eqAgg true [.b,.b,.i,.i,.i,.i,.i,.i,.i,.i,.i,.i,.i,.s,.i] (.t 148) (.t 149)) 144,DP),(OU 151 (.pick (.t 144) (.t 150) (.c (.bool false))) 137,DP),(OO 152 (.pick (.t 137) (.c (.bool true)) (.t 151)),DP)]) (CS 152 (SQ [OQ 4 false] .ret))))) (.ops [OJ 153 .add 112 1,OM 112 153]))))))) (SQ [OF 155 0 2,OF 156 9 155,OA 157 4 156,OF 158 13 2,OL 159 158,OM 160 8,OC 161 29 [157,159,160],OM 154 161,OX 162 154 0,OX 163 154 1,OO 16 (.alloc [.int .i64 0]),⟨none,.store 1 (.t 16) (.t 162),none⟩,OM 17 163] (SQ [OM 164 6,OC 165 31 [164],OO 166 (.mkfn 32 [.t 16]),OC 167 30 [165,166],OM 18 167] (SQ [OM 168 17,OJ 169 .eql 168 0,OM 170 169,PT 171 18 170,PT 172 12 170,OT 173 (.call (.c (.fn 19 [])) [.t 171,.t 172]) 170,OO 174 (.pick (.t 170) (.t 173) (.c (.bool false))),OM 4 174] .ret)))))))))))),false⟩
theorem e8 : T 8 = some c8 := by kernel_rfl
def c9 : Fun1 := ⟨[.tmp 6],SQ [OG 3 0,OQ 6 false] (.seq (SQ [OC 15 10 [],OH 16 15] (CS 16 (SQ [OQ 6 false] .ret))) (.seq (SQ [OA 17 15 3,OC 18 12 [17],OH 19 18] (CS 19 (SQ [OQ 6 true] .ret))) (SQ [OF 21 0 3,OA 22 13 21,OF 23 13 3,OL 24 23,OF 25 14 3,OL 26 25,OC 27 20 [22,24,26],OM 20 27,OX 28 20 0,OX 29 20 1,OM 7 28,OM 8 29] (SQ [OF 31 0 3,OA 32 13 31,OF 33 13 3,OL 34 33,OF 35 14 3,OL 36 35,OC 37 33 [32,34,36],OM 30 37,OX 38 30 0,OX 39 30 1,OM 9 38,OM 10 39] (SQ [OF 41 0 3,OA 42 13 41,OF 43 13 3,OL 44 43,OM 45 1,OM 46 2,OC 47 23 [42,44,45,46],OM 40 47,OX 48 40 0,OX 49 40 1,OM 11 48,OM 12 49] (SQ [OF 51 0 3,OA 52 13 51,OF 53 13 3,OL 54 53,OM 55 1,OM 56 2,OC 57 34 [52,54,55,56],OM 50 57,OX 58 50 0,OX 59 50 1,OM 13 58,OM 14 59] (.seq (.drawn [DF 60 0 3,DA 61 13 60,(OC 62 22 [61],DS),DF 63 0 3,DA 64 13 63,(OC 65 35 [64],DB),DD 66 .eql 62 65,DM 67 66,(PT 68 8 67,DP),(PT 69 10 67,DP),(OT 70 (.bin .eql (.t 68) (.t 69)) 67,DP),(OO 71 (.pick (.t 67) (.t 70) (.c (.bool false))),DP),DM 72 71,(PT 73 7 72,DP),(PT 74 9 72,DP),(OT 75 (.call (.c (.fn 36 [])) [.t 73,.t 74]) 72,DB),(OO 76 (.pick (.t 72) (.t 75) (.c (.bool false))),DP),DM 77 76,(PT 78 11 77,DP),(PT 79 13 77,DP),(OT 80 (.binB .eql (.t 78) (.t 79)) 77,DP),(OO 81 (.pick (.t 77) (.t 80) (.c (.bool false))),DP),DM 82 81,(PT 83 12 82,DP),(PT 84 14 82,DP),(OT 85 (.bin .eql (.t 83) (.t 84)) 82,DP),(OO 86 (.pick (.t 82) (.t 85) (.c (.bool false))),DP),DM 6 86]) .ret))))))),false⟩
theorem e9 : T 9 = some c9 := by kernel_rfl
def c10 : Fun1 := ⟨[.tmp 0],SQ [OQ 0 false] (SQ [OO 9 (.call (.c (.fn 37 [])) [IC 300]),OO 10 (.call (.c (.fn 37 [])) [IC 1101]),OO 1 (.alloc [.lst 0 [] true,.lst 0 [] true,.lst 0 [] true,.int .i64 0,.int .i64 0,.int .i64 0,.lst 0 [] true,.lst 0 [] true,.lst 0 [] true,.int .i64 0,.int .i64 0,.int .i64 0,.lst 0 [] true,.int .i64 0,.lst 0 [] true]),OO 2 (.alloc [.lst 0 [] true,.lst 0 [] true,.lst 0 [] true,.int .i64 0,.int .i64 0,.int .i64 0,.lst 0 [] true,.lst 0 [] true,.lst 0 [] true,.int .i64 0,.int .i64 0,.int .i64 0,.lst 0 [] true,.int .i64 0,.lst 0 [] true]),⟨none,.store 15 (.t 1) (.t 9),none⟩,⟨none,.store 15 (.t 2) (.t 10),none⟩] (SQ [OF 12 0 1,OA 13 13 12,OF 14 13 1,OL 15 14,OF 16 14 1,OL 17 16,OC 18 11 [13,15,17],OM 11 18,OX 19 11 0,OX 20 11 1,OX 21 11 2,OM 3 19,OM 4 20,OM 5 21] (SQ [OF 23 0 2,OA 24 13 23,OF 25 13 2,OL 26 25,OF 27 14 2,OL 28 27,OC 29 11 [24,26,28],OM 22 29,OX 30 22 0,OX 31 22 1,OX 32 22 2,OM 6 30,OM 7 31,OM 8 32] (.seq (SQ [OM 33 5,OJ 34 .neq 33 0,OM 35 34,PU 36 8 35,OU 37 (.bin .neq (.t 36) (IC 0)) 35,OO 38 (.pick (.t 35) (.c (.bool true)) (.t 37)),OM 39 38,PU 40 3 39,OU 41 (.len (.t 40)) 39,OU 42 (.bin .neq (.t 41) (IC 2)) 39,OO 43 (.pick (.t 39) (.c (.bool true)) (.t 42)),OM 44 43,PU 45 6 44,OU 46 (.len (.t 45)) 44,OU 47 (.bin .neq (.t 46) (IC 2)) 44,OO 48 (.pick (.t 44) (.c (.bool true)) (.t 47)),OM 49 48,PU 50 4 49,OU 51 (.len (.t 50)) 49,OU 52 (.bin .neq (.t 51) (IC 2)) 49,OO 53 (.pick (.t 49) (.c (.bool true)) (.t 52)),OM 54 53,PU 55 7 54,OU 56 (.len (.t 55)) 54,OU 57 (.bin .neq (.t 56) (IC 1)) 54,OO 58 (.pick (.t 54) (.c (.bool true)) (.t 57))] (CS 58 (SQ [OQ 0 false] .ret))) (.seq (.drawn [DM 59 3,(OO 60 (.iaddrS 15 (.t 59) (IC 0)),DB),(OA 61 15 60,DB),(OO 62 (.build [.bool false,.bool false,.int .i64 0,.int .i64 0,.int .i64 0,.int .i64 0,.int .i64 0,.int .i64 0,.int .i64 0,.int .i64 0,.int .i64 0,.int .i64 0,.int .i64 0,.str (.mk (.mk [])),.int .i64 0] [(0,(1,.c (.bool true))),(14,(1,IC 300))]),DP),(OO 63 (.eqAgg false [.b,.b,.i,.i,.i,.i,.i,.i,.i,.i,.i,.i,.i,.s,.i] (.t 61) (.t 62)),DP),DM 64 63,(PT 65 3 64,DP),(OT 66 (.iaddrS 15 (.t 65) (IC 1)) 64,DS),(OT 67 (.load true 15 (.t 66)) 64,DS),(OT 68 (.faddr 14 (.t 1)) 64,DS),(OT 69 (.load false 1 (.t 68)) 64,DS),(OT 70 (.iaddrS 14 (.t 69) (IC 0)) 64,DS),(OT 71 (.faddr 2 (.t 70)) 64,DS),(OT 72 (.load true 12 (.t 71)) 64,DS),(OT 73 (.build [.bool false,.bool false,.int .i64 0,.int .i64 0,.int .i64 0,.int .i64 0,.int .i64 0,.int .i64 0,.int .i64 0,.int .i64 0,.int .i64 0,.int .i64 0,.int .i64 0,.str (.mk (.mk [])),.int .i64 0] [(1,(1,.c (.bool true))),(2,(12,.t 72)),(14,(1,IC 300))]) 64,DP),(OT 74 (.eqAgg false [.b,.b,.i,.i,.i,.i,.i,.i,.i,.i,.i,.i,.i,.s,.i] (.t 67) (.t 73)) 64,DP),(OO 75 (.pick (.t 64) (.t 74) (.c (.bool false))),DP),DM 76 75,(PT 77 6 76,DP),(OT 78 (.iaddrS 15 (.t 77) (IC 0)) 76,DB),(OT 79 (.load true 15 (.t 78)) 76,DB),(OT 80 (.build [.bool false,.bool false,.int .i64 0,.int .i64 0,.int .i64 0,.int .i64 0,.int .i64 0,.int .i64 0,.int .i64 0,.int .i64 0,.int .i64 0,.int .i64 0,.int .i64 0,.str (.mk (.mk [])),.int .i64 0] []) 76,DP),(OT 81 (.eqAgg false [.b,.b,.i,.i,.i,.i,.i,.i,.i,.i,.i,.i,.i,.s,.i] (.t 79) (.t 80)) 76,DP),(OO 82 (.pick (.t 76) (.t 81) (.c (.bool false))),DP),DM 83 82,(PT 84 6 83,DP),(OT 85 (.iaddrS 15 (.t 84) (IC 1)) 83,DB),(OT 86 (.load true 15 (.t 85)) 83,DB),(OT 87 (.build [.bool false,.bool false,.int .i64 0,.int .i64 0,.int .i64 0,.int .i64 0,.int .i64 0,.int .i64 0,.int .i64 0,.int .i64 0,.int .i64 0,.int .i64 0,.int .i64 0,.str (.mk (.mk [])),.int .i64 0] []) 83,DP),(OT 88 (.eqAgg false [.b,.b,.i,.i,.i,.i,.i,.i,.i,.i,.i,.i,.i,.s,.i] (.t 86) (.t 87)) 83,DP),(OO 89 (.pick (.t 83) (.t 88) (.c (.bool false))),DP),DM 90 89,(PT 91 4 90,DP),(OT 92 (.iaddrS 4 (.t 91) (IC 0)) 90,DB),(OT 93 (.load true 4 (.t 92)) 90,DB),(OT 94 (.build [.int .i64 0,.int .i64 0,.int .i64 0,.int .i64 0] [(1,(1,IC 5)),(2,(1,IC 32120)),(3,(1,IC 32632))]) 90,DP),(OT 95 (.eqAgg false [.i,.i,.i,.i] (.t 93) (.t 94)) 90,DP),(OO 96 (.pick (.t 90) (.t 95) (.c (.bool false))),DP),DM 97 96,(PT 98 4 97,DP),(OT 99 (.iaddrS 4 (.t 98) (IC 1)) 97,DB),(OT 100 (.load true 4 (.t 99)) 97,DB),(OT 101 (.build [.int .i64 0,.int .i64 0,.int .i64 0,.int .i64 0] [(0,(1,IC 1)),(1,(1,IC 5)),(2,(1,IC 33632)),(3,(1,IC 34464))]) 97,DP),(OT 102 (.eqAgg false [.i,.i,.i,.i] (.t 100) (.t 101)) 97,DP),(OO 103 (.pick (.t 97) (.t 102) (.c (.bool false))),DP),DM 0 103]) .ret))))),false⟩
theorem e10 : T 10 = some c10 := by kernel_rfl
def c11 : Fun1 := ⟨[.tmp 6,.tmp 7,.tmp 8],SQ [OG 3 0,OZ 6,OZ 7,OK 8 0] (.seq (SQ [OA 22 13 3,OM 23 1,OM 24 2,OC 25 38 [22,23,24],OM 9 25] (SQ [OM 26 9,OJ 27 .neq 26 0] (CS 27 (SQ [OM 28 9,OZ 6,OZ 7,OM 8 28] .ret)))) (.seq (.drawn [DA 29 13 3,DM 30 1,DM 31 2,DM 32 2,DE 33 32,(OO 34 (.mkslice 15 [.bool false,.bool false,.int .i64 0,.int .i64 0,.int .i64 0,.int .i64 0,.int .i64 0,.int .i64 0,.int .i64 0,.int .i64 0,.int .i64 0,.int .i64 0,.int .i64 0,.str (.mk (.mk [])),.int .i64 0] 120 (.t 33) (.t 33)),⟨.seg,[],1,0⟩),(OO 35 (.build [.lst 0 [] true,.lst 0 [] true,.lst 0 [] true,.int .i64 0,.int .i64 0,.int .i64 0,.lst 0 [] true,.lst 0 [] true,.lst 0 [] true,.int .i64 0,.int .i64 0,.int .i64 0,.lst 0 [] true,.int .i64 0,.lst 0 [] true,.lst 0 [] true,.lst 0 [] true,.lst 0 [] true] [(0,(13,.t 29)),(13,(1,.t 30)),(14,(1,.t 31)),(17,(1,.t 34))]),⟨.pure,[],0,1⟩),(OG 36 35,⟨.seg,[],1,1⟩),(OO 10 (.alloc [.nilPtr]),⟨.seg,[0,1],1,2⟩),(⟨none,.store 1 (.t 10) (.t 36),none⟩,⟨.bar,[],0,3⟩)]) (SQ [OO 37 .mkmap,OL 38 10,OO 39 (.mkbfn 39 [.t 38]),⟨none,.mupd .i (.t 37) (IC 1) (.t 39),none⟩,OL 40 10,OO 41 (.mkbfn 40 [.t 40]),⟨none,.mupd .i (.t 37) (IC 2) (.t 41),none⟩,OL 42 10,OO 43 (.mkbfn 41 [.t 42]),⟨none,.mupd .i (.t 37) (IC 0) (.t 43),none⟩,OM 44 37,OM 11 44] (.seq (SQ [OM 45 2,OE 46 45,OK 47 0] (.block 0 (.loop ⟨[999999,3,6,7,8,10,11,45,46,47],[]⟩ (SQ [OB 48 .lss 47 46] (.seq (CX 48 0) (.seq (.block 1 (SQ [OM 49 47,OI 50 14 45 47,OA 51 14 50,OO 13 (.alloc [.int .i64 0,.int .i64 0,.int .i64 0,.int .i64 0,.int .i64 0,.int .i64 0,.int .i64 0,.int .i64 0,.int .i64 0,.int .i64 0,.int .i64 0,.int .i64 0,.int .i64 0,.str (.mk (.mk []))]),OM 12 49,⟨none,.store 14 (.t 13) (.t 51),none⟩] (SQ [OM 52 11,OF 53 0 13,OL 54 53,OO 55 (.mlook .i false .nilFn (.t 52) (.t 54)),OM 56 12,OO 57 (.call (.t 55) [.t 56]),OM 14 57] (SQ [OM 58 14,OJ 59 .neq 58 0] (CS 59 (SQ [OM 60 14,OZ 6,OZ 7,OM 8 60] .ret)))))) (.ops [OJ 61 .add 47 1,OM 47 61]))))))) (SQ [OL 62 10,ON 63 62,OF 64 16 63,OL 65 64,OO 66 (.call (.c (.fn 42 [])) [.t 65,.c (.fn 43 [])])] (.seq (SQ [OL 67 10,ON 68 67,OF 69 16 68,OL 70 69,OE 71 70,OK 72 0] (.block 2 (.loop ⟨[3,6,7,8,10,70,71,72],[]⟩ (SQ [OB 73 .lss 72 71] (.seq (CX 73 2) (.seq (.block 3 (SQ [OI 74 1 70 72,OL 75 74,OO 16 (.alloc [.nilPtr]),⟨none,.store 1 (.t 16) (.t 75),none⟩] (SQ [OL 76 10,OO 77 (.callK 45 1 [.t 76])] (.block 4 (.rangeF (.t 77) [78] (.ops [OM 17 78]) (.block 5 (.ops [OL 79 10,OM 80 17,OL 81 16,OC 82 46 [79,80,81]]))))))) (.ops [OJ 83 .add 72 1,OM 72 83]))))))) (.seq (SQ [OL 84 10,ON 85 84,OF 86 16 85,OL 87 86,OE 88 87,OK 89 0] (.block 6 (.loop ⟨[3,10,87,88,89],[]⟩ (SQ [OB 90 .lss 89 88] (.seq (CX 90 6) (.seq (.block 7 (SQ [OI 91 1 87 89,OL 92 91,OM 19 92] (.seq (SQ [OM 93 19,ON 94 93,OF 95 17 94,OL 96 95,OJ 97 .lss 96 0] (CS 97 (.exit 7))) (.seq (.drawn [DF 99 0 3,DA 100 6 99,DF 101 6 3,DA 102 2 101,DL 103 10,DN 104 103,DF 105 15 104,DL 106 105,DM 107 19,DN 108 107,DF 109 17 108,DL 110 109,DM 111 19,DN 112 111,DF 113 0 112,DL 114 113,(OO 115 (.callV 47 [.t 100,.t 102,.t 106,.t 110,.t 114]),DB),DM 98 115,(OX 116 98 0,DP),(OX 117 98 1,DP),DM 20 116,DM 21 117]) (SQ [OM 118 20] (CS 118 (.drawn [DL 119 10,DN 120 119,DF 121 17 120,DL 122 121,DM 123 19,DN 124 123,DF 125 0 124,DL 126 125,DM 127 19,DN 128 127,DF 129 18 128,DL 130 129,(OO 131 (.build [.bool false,.bool false,.int .i64 0,.int .i64 0,.int .i64 0,.int .i64 0,.int .i64 0,.int .i64 0,.int .i64 0,.int .i64 0,.int .i64 0,.int .i64 0,.int .i64 0,.str (.mk (.mk [])),.int .i64 0] [(0,(1,.c (.bool true))),(14,(1,.t 130))]),DP),(OI 132 15 122 126,DB),(⟨none,.store 15 (.t 132) (.t 131),none⟩,DB)]))))))) (.ops [OJ 133 .add 89 1,OM 89 133]))))))) (.seq (.drawn [DL 134 10,DN 135 134,DF 136 17 135,DL 137 136,DL 138 10,DN 139 138,DF 140 15 139,DL 141 140,DM 6 137,DM 7 141,(OK 8 0,DP)]) .ret)))))))),false⟩
theorem e11 : T 11 = some c11 := by kernel_rfl
def c12 : Fun1 := ⟨[.tmp 2],SQ [OG 1 0,OQ 2 false] (SQ [OF 3 0 1,OA 4 13 3,OC 5 48 [4],OM 6 5,OT 7 (.faddr 14 (.t 1)) 6,OT 8 (.load false 1 (.t 7)) 6,OT 9 (.call (.c (.fn 49 [])) [.t 8]) 6,OO 10 (.pick (.t 6) (.t 9) (.c (.bool false))),OM 2 10] .ret),false⟩
theorem e12 : T 12 = some c12 := by kernel_rfl
def c13 : Fun1 := ⟨[.tmp 4,.tmp 5],SQ [OG 2 0,OK 4 0,OK 5 0] (SQ [OA 6 2 2,OM 7 1,OO 8 (.call (.c (.fn 50 [])) [.t 6,.t 7,IC 2120]),OX 9 8 0,OX 10 8 1,OM 4 9,OM 5 10] .ret),false⟩
theorem e13 : T 13 = some c13 := by kernel_rfl
def c20 : Fun1 := ⟨[.tmp 6,.tmp 7],SQ [OG 3 0,OZ 6,OK 7 0] (.seq (SQ [OA 13 13 3,OM 14 1,OM 15 2,OC 16 38 [13,14,15],OM 8 16] (SQ [OM 17 8,OJ 18 .neq 17 0] (CS 18 (SQ [OM 19 8,OZ 6,OM 7 19] .ret)))) (SQ [OA 20 13 3,OM 21 1,OM 22 2,OO 23 (.build [.lst 0 [] true,.lst 0 [] true,.lst 0 [] true,.int .i64 0,.int .i64 0,.int .i64 0,.lst 0 [] true,.lst 0 [] true,.lst 0 [] true,.int .i64 0,.int .i64 0,.int .i64 0,.lst 0 [] true,.int .i64 0,.lst 0 [] true,.lst 0 [] true,.lst 0 [] true,.lst 0 [] true] [(0,(13,.t 20)),(13,(1,.t 21)),(14,(1,.t 22))]),OG 24 23,OM 9 24] (SQ [OZ 10] (.seq (SQ [OM 25 2,OE 26 25,OK 27 0] (.block 0 (.loop ⟨[9,10,25,26,27],[(10,1)]⟩ (SQ [OB 28 .lss 27 26] (.seq (CX 28 0) (.seq (.block 1 (SQ [OM 29 27,OI 30 14 25 27,OA 31 14 30,OO 12 (.alloc [.int .i64 0,.int .i64 0,.int .i64 0,.int .i64 0,.int .i64 0,.int .i64 0,.int .i64 0,.int .i64 0,.int .i64 0,.int .i64 0,.int .i64 0,.int .i64 0,.int .i64 0,.str (.mk (.mk []))]),OM 11 29,⟨none,.store 14 (.t 12) (.t 31),none⟩] (.seq (SQ [OF 32 0 12,OL 33 32,OJ 34 .eql 33 0] (CS 34 (SQ [OM 35 10,OO 36 (.blist 1 [.int .i64 0] 1 [(0,IC (-1))]),OO 37 (.append 1 8 (.t 35) (.t 36)),OM 10 37] (.exit 1)))) (.ops [OM 38 10,OM 39 9,OM 40 11,OC 41 58 [39,40],OO 42 (.blist 1 [.int .i64 0] 1 [(0,.t 41)]),OO 43 (.append 1 8 (.t 38) (.t 42)),OM 10 43])))) (.ops [OJ 44 .add 27 1,OM 27 44]))))))) (SQ [OM 45 10,OM 6 45,OK 7 0] .ret))))),false⟩
theorem e20 : T 20 = some c20 := by kernel_rfl
def c22 : Fun1 := ⟨[.tmp 2],SQ [OG 1 0,OK 2 0] (SQ [OO 3 (.mov (.c (.fn 59 [])))] (.seq (SQ [OF 4 0 1,OA 5 6 4,OC 6 61 [5],OJ 7 .neq 6 0,OM 8 7,OU 9 (.faddr 6 (.t 1)) 8,OU 10 (.load true 2 (.t 9)) 8,OU 11 (.call (.c (.fn 62 [])) [.t 10]) 8,OU 12 (.bin .neq (.t 11) (IC 0)) 8,OO 13 (.pick (.t 8) (.c (.bool true)) (.t 12)),OM 14 13,OU 15 (.faddr 8 (.t 1)) 14,OU 16 (.load false 1 (.t 15)) 14,OU 17 (.len (.t 16)) 14,OU 18 (.faddr 0 (.t 1)) 14,OU 19 (.faddr 0 (.t 18)) 14,OU 20 (.load false 1 (.t 19)) 14,OU 21 (.len (.t 20)) 14,OU 22 (.bin .neq (.t 17) (.t 21)) 14,OO 23 (.pick (.t 14) (.c (.bool true)) (.t 22)),OM 24 23,OU 25 (.faddr 8 (.t 1)) 24,OU 26 (.load false 1 (.t 25)) 24,PU 27 3 24,OU 28 (.call (.c (.fn 63 [])) [.t 26,.t 27]) 24,OO 29 (.pick (.t 24) (.c (.bool true)) (.t 28)),OM 30 29,OU 31 (.faddr 9 (.t 1)) 30,OU 32 (.load true 4 (.t 31)) 30,OU 33 (.call (.c (.fn 64 [])) [.t 32]) 30,OU 34 (.bin .neq (.t 33) (IC 0)) 30,OO 35 (.pick (.t 30) (.c (.bool true)) (.t 34))] (CS 35 (SQ [OK 2 1] .ret))) (SQ [OK 2 0] .ret))),false⟩
theorem e22 : T 22 = some c22 := by kernel_rfl
def c23 : Fun1 := ⟨[.tmp 8,.tmp 9],SQ [OG 4 0,OQ 8 false,OK 9 0] (SQ [OF 16 8 4,OL 17 16,OE 18 17,OM 10 18] (.seq (.block 0 (SQ [OA 20 13 4,OC 21 22 [20],OJ 22 .neq 21 0,OM 19 22] (.cond (.t 19) (SQ [OQ 8 false,OK 9 1] .ret) (SQ [OM 24 2,OJ 25 .lss 24 0,OM 26 25,PU 27 2 26,PU 28 10 26,OU 29 (.bin .geq (.t 27) (.t 28)) 26,OO 30 (.pick (.t 26) (.c (.bool true)) (.t 29)),OM 31 30,PU 32 3 31,OU 33 (.bin .lss (.t 32) (IC 0)) 31,OO 34 (.pick (.t 31) (.c (.bool true)) (.t 33)),OM 35 34,PU 36 3 35,PU 37 10 35,OU 38 (.bin .geq (.t 36) (.t 37)) 35,OO 39 (.pick (.t 35) (.c (.bool true)) (.t 38)),OM 23 39] (.cond (.t 23) (SQ [OQ 8 false,OK 9 7] .ret) (SQ [OA 41 13 4,OM 42 1,OC 43 65 [41,42],OH 44 43,OM 40 44] (CS 40 (SQ [OQ 8 false,OK 9 12] .ret)))))))) (SQ [OF 46 8 4,OL 47 46,OM 48 2,OI 49 2 47 48,OA 50 2 49,OM 51 1,OC 52 66 [50,51],OM 45 52,OX 53 45 0,OX 54 45 1,OM 11 53,OM 12 54] (SQ [OF 56 8 4,OL 57 56,OM 58 3,OI 59 2 57 58,OA 60 2 59,OM 61 1,OC 62 67 [60,61],OM 55 62,OX 63 55 0,OX 64 55 1,OX 65 55 2,OM 13 63,OM 14 64,OM 15 65] (.seq (SQ [OM 66 12,OJ 67 .neq 66 0,OM 68 67,PU 69 15 68,OU 70 (.bin .neq (.t 69) (IC 0)) 68,OO 71 (.pick (.t 68) (.c (.bool true)) (.t 70))] (CS 71 (SQ [OQ 8 false,OK 9 15] .ret))) (SQ [OM 72 13,OM 73 11,OB 74 .leq 72 73,OM 75 74,PT 76 11 75,PT 77 14 75,OT 78 (.bin .leq (.t 76) (.t 77)) 75,OO 79 (.pick (.t 75) (.t 78) (.c (.bool false))),OM 8 79,OK 9 0] .ret)))))),false⟩
theorem e23 : T 23 = some c23 := by kernel_rfl
def c29 : Fun1 := ⟨[.tmp 6,.tmp 7],SQ [OG 3 0,OK 6 0,OK 7 0] (.seq (SQ [OA 8 4 3,OC 9 72 [8],OJ 10 .neq 9 0] (CS 10 (SQ [OK 6 0,OK 7 1] .ret))) (.seq (SQ [OM 11 1,OF 12 1 3,OL 13 12,OB 14 .lss 11 13,OM 15 14,PU 16 1 15,OU 17 (.faddr 2 (.t 3)) 15,OU 18 (.load false 1 (.t 17)) 15,OU 19 (.bin .geq (.t 16) (.t 18)) 15,OO 20 (.pick (.t 15) (.c (.bool true)) (.t 19))] (CS 20 (SQ [OK 6 0,OK 7 12] .ret))) (.seq (SQ [OM 21 2,OJ 22 .lss 21 0,OM 23 22,PU 24 2 23,OU 25 (.faddr 3 (.t 3)) 23,OU 26 (.load false 1 (.t 25)) 23,OU 27 (.len (.t 26)) 23,OU 28 (.bin .geq (.t 24) (.t 27)) 23,OO 29 (.pick (.t 23) (.c (.bool true)) (.t 28))] (CS 29 (SQ [OK 6 0,OK 7 2] .ret))) (.seq (.drawn [DF 30 3 3,DL 31 30,DM 32 1,DM 33 2,DD 34 .add 32 33,DF 35 3 3,DL 36 35,DE 37 36,DD 38 .rem 34 37,(OI 39 1 31 38,DB),(OL 40 39,DB),DM 6 40,(OK 7 0,DP)]) .ret)))),false⟩
theorem e29 : T 29 = some c29 := by kernel_rfl
def c33 : Fun1 := ⟨[.tmp 6,.tmp 7],SQ [OG 3 0,OZ 6,OK 7 0] (.seq (SQ [OA 12 13 3,OC 13 35 [12],OJ 14 .neq 13 0] (CS 14 (SQ [OZ 6,OK 7 1] .ret))) (.seq (SQ [OM 15 2,OE 16 15,OF 17 8 3,OL 18 17,OE 19 18,OB 20 .neq 16 19] (CS 20 (SQ [OZ 6,OK 7 11] .ret))) (.seq (SQ [OA 21 13 3,OM 22 1,OC 23 73 [21,22],OH 24 23] (CS 24 (SQ [OZ 6,OK 7 12] .ret))) (SQ [OZ 8] (.seq (SQ [OK 9 0] (.block 0 (.loop ⟨[1,2,3,8,9],[(8,1)]⟩ (.seq (SQ [OM 25 9,OM 26 2,OE 27 26,OB 28 .lss 25 27] (CX 28 0)) (.seq (.block 1 (.seq (.seq (.drawn [DA 31 13 3,DM 32 9,DM 33 2,DM 34 9,DI 35 14 33 34,DA 36 14 35,(OC 37 74 [31,32,36],DB),DM 10 37]) (SQ [OM 38 10,OJ 39 .neq 38 0] (CS 39 (SQ [OM 40 10,OZ 6,OM 7 40] .ret)))) (SQ [OK 11 (-1)] (.seq (SQ [OM 41 2,OM 42 9,OI 43 14 41 42,OF 44 0 43,OL 45 44,OJ 46 .neq 45 0] (CS 46 (.drawn [DF 48 9 3,DA 49 4 48,DM 50 1,DM 51 2,DM 52 9,DI 53 14 51 52,DF 54 1 53,DL 55 54,(OC 56 29 [49,50,55],DB),DM 47 56,(OX 57 47 0,DP),(OX 58 47 1,DP),DM 11 57]))) (.ops [OM 59 8,OM 60 11,OO 61 (.blist 1 [.int .i64 0] 1 [(0,.t 60)]),OO 62 (.append 1 8 (.t 59) (.t 61)),OM 8 62]))))) (.ops [OM 29 9,OJ 30 .add 29 1,OM 9 30])))))) (SQ [OM 63 8,OM 6 63,OK 7 0] .ret)))))),false⟩
theorem e33 : T 33 = some c33 := by kernel_rfl
def c34 : Fun1 := ⟨[.tmp 8,.tmp 9],SQ [OG 4 0,OQ 8 false,OK 9 0] (.seq (SQ [OA 15 13 4,OC 16 35 [15],OJ 17 .neq 16 0] (CS 17 (SQ [OQ 8 false,OK 9 1] .ret))) (.seq (SQ [OM 18 2,OJ 19 .lss 18 0,OM 20 19,PU 21 2 20,OU 22 (.faddr 8 (.t 4)) 20,OU 23 (.load false 1 (.t 22)) 20,OU 24 (.len (.t 23)) 20,OU 25 (.bin .geq (.t 21) (.t 24)) 20,OO 26 (.pick (.t 20) (.c (.bool true)) (.t 25)),OM 27 26,PU 28 3 27,OU 29 (.bin .lss (.t 28) (IC 0)) 27,OO 30 (.pick (.t 27) (.c (.bool true)) (.t 29)),OM 31 30,PU 32 3 31,OU 33 (.faddr 8 (.t 4)) 31,OU 34 (.load false 1 (.t 33)) 31,OU 35 (.len (.t 34)) 31,OU 36 (.bin .geq (.t 32) (.t 35)) 31,OO 37 (.pick (.t 31) (.c (.bool true)) (.t 36))] (CS 37 (SQ [OQ 8 false,OK 9 7] .ret))) (.seq (SQ [OA 38 13 4,OM 39 1,OC 40 73 [38,39],OH 41 40] (CS 41 (SQ [OQ 8 false,OK 9 12] .ret))) (SQ [OF 43 8 4,OL 44 43,OM 45 2,OI 46 2 44 45,OA 47 2 46,OM 48 1,OC 49 13 [47,48],OM 42 49,OX 50 42 0,OX 51 42 1,OM 10 50,OM 11 51] (SQ [OF 53 8 4,OL 54 53,OM 55 3,OI 56 2 54 55,OA 57 2 56,OM 58 1,OC 59 54 [57,58],OM 52 59,OX 60 52 0,OX 61 52 1,OX 62 52 2,OM 12 60,OM 13 61,OM 14 62] (.seq (SQ [OM 63 11,OJ 64 .neq 63 0,OM 65 64,PU 66 14 65,OU 67 (.bin .neq (.t 66) (IC 0)) 65,OO 68 (.pick (.t 65) (.c (.bool true)) (.t 67))] (CS 68 (SQ [OQ 8 false,OK 9 15] .ret))) (SQ [OM 69 10,OM 70 12,OB 71 .geq 69 70,OM 72 71,PT 73 10 72,PT 74 13 72,OT 75 (.bin .leq (.t 73) (.t 74)) 72,OO 76 (.pick (.t 72) (.t 75) (.c (.bool false))),OM 8 76,OK 9 0] .ret))))))),false⟩
theorem e34 : T 34 = some c34 := by kernel_rfl
def c35 : Fun1 := ⟨[.tmp 2],SQ [OG 1 0,OK 2 0] (.seq (SQ [OF 4 0 1,OA 5 6 4,OC 6 75 [5],OJ 7 .neq 6 0,OM 8 7,OU 9 (.faddr 6 (.t 1)) 8,OU 10 (.load true 2 (.t 9)) 8,OU 11 (.call (.c (.fn 76 [])) [.t 10]) 8,OU 12 (.bin .neq (.t 11) (IC 0)) 8,OO 13 (.pick (.t 8) (.c (.bool true)) (.t 12)),OM 14 13,OU 15 (.faddr 8 (.t 1)) 14,OU 16 (.load false 1 (.t 15)) 14,OU 17 (.len (.t 16)) 14,OU 18 (.faddr 0 (.t 1)) 14,OU 19 (.faddr 0 (.t 18)) 14,OU 20 (.load false 1 (.t 19)) 14,OU 21 (.len (.t 20)) 14,OU 22 (.bin .neq (.t 17) (.t 21)) 14,OO 23 (.pick (.t 14) (.c (.bool true)) (.t 22)),OM 24 23,OU 25 (.faddr 9 (.t 1)) 24,OU 26 (.load true 4 (.t 25)) 24,OU 27 (.call (.c (.fn 72 [])) [.t 26]) 24,OU 28 (.bin .neq (.t 27) (IC 0)) 24,OO 29 (.pick (.t 24) (.c (.bool true)) (.t 28))] (CS 29 (SQ [OK 2 1] .ret))) (.seq (SQ [OK 3 0] (.block 0 (.loop ⟨[1,3],[]⟩ (.seq (SQ [OM 30 3,OF 31 8 1,OL 32 31,OE 33 32,OB 34 .lss 30 33] (CX 34 0)) (.seq (.block 1 (SQ [OF 37 8 1,OL 38 37,OM 39 3,OI 40 2 38 39,OA 41 2 40,OC 42 69 [41],OJ 43 .neq 42 0] (CS 43 (SQ [OK 2 1] .ret)))) (.ops [OM 35 3,OJ 36 .add 35 1,OM 3 36])))))) (SQ [OK 2 0] .ret))),false⟩
theorem e35 : T 35 = some c35 := by kernel_rfl
def c36 : Fun1 := ⟨[.tmp 4],SQ [OQ 4 false] (.seq (SQ [OM 6 0,OE 7 6,OM 8 1,OE 9 8,OB 10 .neq 7 9] (CS 10 (SQ [OQ 4 false] .ret))) (.seq (SQ [OM 11 0,OE 12 11,OK 13 0] (.block 0 (.loop ⟨[0,1,12,13],[]⟩ (SQ [OB 14 .lss 13 12] (.seq (CX 14 0) (.seq (.block 1 (SQ [OM 15 13,OM 5 15] (.seq (.drawn [DM 16 0,DM 17 5,DI 18 1 16 17,DL 19 18,DM 20 1,DM 21 5,DI 22 1 20 21,DL 23 22,DD 24 .neq 19 23]) (CS 24 (SQ [OQ 4 false] .ret))))) (.ops [OJ 25 .add 13 1,OM 13 25]))))))) (SQ [OQ 4 true] .ret))),false⟩
theorem e36 : T 36 = some c36 := by kernel_rfl
def c37 : Fun1 := ⟨[.cell 2 true 15],SQ [OO 2 (.alloc [.lst 0 [] true,.lst 0 [] true,.lst 0 [] true,.int .i64 0,.int .i64 0,.int .i64 0,.lst 0 [] true,.lst 0 [] true,.lst 0 [] true,.int .i64 0,.int .i64 0,.int .i64 0,.lst 0 [] true,.int .i64 0,.lst 0 [] true])] (SQ [OO 4 (.build [.int .i64 0,.int .i64 0] []),OO 5 (.build [.int .i64 0,.int .i64 0] [(0,(1,IC 10))]),OO 6 (.blist 2 [.int .i64 0,.int .i64 0] 2 [(0,.t 4),(1,.t 5)]),OO 7 (.blist 1 [.int .i64 0] 2 [(0,IC 100000),(1,IC 100000)]),OO 8 (.build [.lst 0 [] true,.lst 0 [] true,.lst 0 [] true,.int .i64 0,.int .i64 0,.int .i64 0] [(0,(1,.t 6)),(1,(1,.t 7)),(3,(1,IC 2)),(4,(1,IC 1)),(5,(1,IC 2000))]),OO 9 (.build [.int .i64 0,.int .i64 0] []),OM 10 0,OO 11 (.build [.int .i64 0,.int .i64 0] [(0,(1,.t 10))]),OO 12 (.blist 2 [.int .i64 0,.int .i64 0] 2 [(0,.t 9),(1,.t 11)]),OO 13 (.blist 1 [.int .i64 0] 2 [(0,IC 5),(1,IC 6)]),OO 14 (.build [.int .i64 0,.int .i64 0,.int .i64 0,.lst 0 [] true] [(2,(1,IC 9)),(3,(1,.t 13))]),OO 15 (.build [.lst 0 [] true,.lst 0 [] true,.lst 0 [] true,.int .i64 0,.int .i64 0,.int .i64 0,.lst 0 [] true,.lst 0 [] true,.lst 0 [] true,.int .i64 0,.int .i64 0,.int .i64 0,.lst 0 [] true] [(0,(6,.t 8)),(8,(1,.t 12)),(9,(4,.t 14))]),OO 3 (.alloc [.lst 0 [] true,.lst 0 [] true,.lst 0 [] true,.int .i64 0,.int .i64 0,.int .i64 0,.lst 0 [] true,.lst 0 [] true,.lst 0 [] true,.int .i64 0,.int .i64 0,.int .i64 0,.lst 0 [] true]),⟨none,.store 13 (.t 3) (.t 15),none⟩] (SQ [OA 16 13 3,OO 17 (.build [.int .i64 0,.int .i64 0,.int .i64 0,.int .i64 0,.int .i64 0,.int .i64 0,.int .i64 0,.int .i64 0,.int .i64 0,.int .i64 0,.int .i64 0,.str (.mk (.mk []))] [(0,(1,IC 4)),(2,(1,IC 1)),(11,(1,.c (.str (.mk (.mk [97,98,99])))))]),OO 18 (.build [.int .i64 0,.int .i64 0,.int .i64 0,.int .i64 0,.int .i64 0,.int .i64 0,.int .i64 0,.int .i64 0,.int .i64 0,.int .i64 0,.int .i64 0,.int .i64 0,.int .i64 0,.str (.mk (.mk []))] [(0,(1,IC 1)),(1,(1,IC 1)),(2,(12,.t 17))]),OO 19 (.build [.int .i64 0,.int .i64 0,.int .i64 0,.int .i64 0,.int .i64 0,.int .i64 0,.int .i64 0,.int .i64 0,.int .i64 0,.int .i64 0,.int .i64 0,.int .i64 0,.int .i64 0,.str (.mk (.mk []))] [(0,(1,IC 2)),(1,(1,IC 1))]),OO 20 (.blist 14 [.int .i64 0,.int .i64 0,.int .i64 0,.int .i64 0,.int .i64 0,.int .i64 0,.int .i64 0,.int .i64 0,.int .i64 0,.int .i64 0,.int .i64 0,.int .i64 0,.int .i64 0,.str (.mk (.mk []))] 2 [(0,.t 18),(1,.t 19)]),OO 21 (.build [.lst 0 [] true,.lst 0 [] true,.lst 0 [] true,.int .i64 0,.int .i64 0,.int .i64 0,.lst 0 [] true,.lst 0 [] true,.lst 0 [] true,.int .i64 0,.int .i64 0,.int .i64 0,.lst 0 [] true,.int .i64 0,.lst 0 [] true] [(0,(13,.t 16)),(13,(1,IC 3)),(14,(1,.t 20))]),⟨none,.store 15 (.t 2) (.t 21),none⟩] .ret)),false⟩
theorem e37 : T 37 = some c37 := by kernel_rfl
def c38 : Fun1 := ⟨[.tmp 6],SQ [OG 3 0,OK 6 0] (.seq (.block 0 (SQ [OA 11 13 3,OC 12 22 [11],OJ 13 .neq 12 0,OM 10 13] (.cond (.t 10) (SQ [OK 6 1] .ret) (SQ [OM 15 2,OE 16 15,OF 17 8 3,OL 18 17,OE 19 18,OB 20 .neq 16 19,OM 14 20] (.cond (.t 14) (SQ [OK 6 11] .ret) (SQ [OA 22 13 3,OM 23 1,OC 24 65 [22,23],OH 25 24,OM 21 25] (CS 21 (SQ [OK 6 12] .ret)))))))) (.seq (SQ [OM 26 2,OE 27 26,OK 28 0] (.block 1 (.loop ⟨[3,26,27,28],[]⟩ (SQ [OB 29 .lss 28 27] (.seq (CX 29 1) (.seq (.block 2 (SQ [OM 30 28,OI 31 14 26 28,OA 32 14 31,OO 8 (.alloc [.int .i64 0,.int .i64 0,.int .i64 0,.int .i64 0,.int .i64 0,.int .i64 0,.int .i64 0,.int .i64 0,.int .i64 0,.int .i64 0,.int .i64 0,.int .i64 0,.int .i64 0,.str (.mk (.mk []))]),OM 7 30,⟨none,.store 14 (.t 8) (.t 32),none⟩] (SQ [OA 33 13 3,OM 34 7,OA 35 14 8,OC 36 77 [33,34,35],OM 9 36] (SQ [OM 37 9,OJ 38 .neq 37 0] (CS 38 (SQ [OM 39 9,OM 6 39] .ret)))))) (.ops [OJ 40 .add 28 1,OM 28 40]))))))) (SQ [OK 6 0] .ret))),false⟩
theorem e38 : T 38 = some c38 := by kernel_rfl
def c48 : Fun1 := ⟨[.tmp 2],SQ [OG 1 0,OQ 2 false] (SQ [OF 3 0 1,OA 4 6 3,OC 5 86 [4],OM 6 5,OT 7 (.faddr 6 (.t 1)) 6,OT 8 (.load true 2 (.t 7)) 6,OT 9 (.call (.c (.fn 87 [])) [.t 8]) 6,OO 10 (.pick (.t 6) (.t 9) (.c (.bool false))),OM 11 10,OT 12 (.faddr 8 (.t 1)) 11,OT 13 (.load false 1 (.t 12)) 11,OT 14 (.len (.t 13)) 11,OT 15 (.bin .leq (.t 14) (IC 40)) 11,OO 16 (.pick (.t 11) (.t 15) (.c (.bool false))),OM 17 16,OT 18 (.faddr 9 (.t 1)) 17,OT 19 (.faddr 3 (.t 18)) 17,OT 20 (.load false 1 (.t 19)) 17,OT 21 (.len (.t 20)) 17,OT 22 (.bin .leq (.t 21) (IC 20)) 17,OO 23 (.pick (.t 17) (.t 22) (.c (.bool false))),OM 2 23] .ret),false⟩
theorem e48 : T 48 = some c48 := by kernel_rfl
def c49 : Fun1 := ⟨[.tmp 2],SQ [OQ 2 false] (.seq (SQ [OK 3 0] (.block 0 (.loop ⟨[0,3],[]⟩ (.seq (SQ [OM 4 3,OM 5 0,OE 6 5,OB 7 .lss 4 6,OM 8 7,PT 9 3 8,OT 10 (.bin .lss (.t 9) (IC 40)) 8,OO 11 (.pick (.t 8) (.t 10) (.c (.bool false)))] (CX 11 0)) (.seq (.block 1 (SQ [OM 14 0,OM 15 3,OI 16 14 14 15,OF 17 2 16,OF 18 11 17,OL 19 18,OO 20 (.lenS (.t 19)),OJ 21 .gtr 20 200] (CS 21 (SQ [OQ 2 false] .ret)))) (.ops [OM 12 3,OJ 13 .add 12 1,OM 3 13])))))) (SQ [OM 22 0,OE 23 22,OJ 24 .leq 23 40,OM 2 24] .ret)),false⟩
theorem e49 : T 49 = some c49 := by kernel_rfl
def c50 : Fun1 := ⟨[.tmp 6,.tmp 7],SQ [OG 3 0,OK 6 0,OK 7 0] (.seq (SQ [OA 8 2 3,OC 9 69 [8],OJ 10 .neq 9 0] (CS 10 (SQ [OK 6 0,OK 7 1] .ret))) (.seq (SQ [OM 11 1,OJ 12 .lss 11 0,OM 13 12,PU 14 1 13,OU 15 (.bin .gtr (.t 14) (IC 109951162)) 13,OO 16 (.pick (.t 13) (.c (.bool true)) (.t 15))] (CS 16 (SQ [OK 6 0,OK 7 2] .ret))) (SQ [OA 17 2 3,OM 18 1,OJ 19 .mul 18 10000,OM 20 2,OB 21 .add 19 20,OC 22 88 [17,21],OX 23 22 0,OX 24 22 1,OM 6 23,OM 7 24] .ret))),false⟩
theorem e50 : T 50 = some c50 := by kernel_rfl
def c51 : Fun1 := ⟨[.tmp 2,.tmp 3],SQ [OG 1 0,OO 2 (.mov (.c (.str (.mk (.mk []))))),OK 3 0] (.seq (SQ [OA 7 12 1,OC 8 89 [7],OJ 9 .neq 8 0] (CS 9 (SQ [OO 2 (.mov (.c (.str (.mk (.mk []))))),OK 3 1] .ret))) (.seq (SQ [OF 10 11 1,OL 11 10,OO 12 (.lenS (.t 11)),OJ 13 .gtr 12 127] (CS 13 (SQ [OO 2 (.mov (.c (.str (.mk (.mk []))))),OK 3 8] .ret))) (.seq (SQ [OO 14 (.callK 90 1 []),OM 4 14] (.virt [(4,1)])) (SQ [OM 15 4,OF 16 0 1,OL 17 16,OO 18 (.call (.c (.fn 91 [])) [.t 15,IC 3,.t 17])] (SQ [OM 19 4,OF 20 1 1,OL 21 20,OO 22 (.call (.c (.fn 91 [])) [.t 19,IC 5,.t 21])] (SQ [OM 23 4,OF 24 2 1,OL 25 24,OJ 26 .geq 25 0,OC 27 92 [23,26]] (.seq (SQ [OF 28 2 1,OL 29 28,OJ 30 .geq 29 0] (CS 30 (.ops [OM 31 4,OF 32 2 1,OL 33 32,OO 34 (.call (.c (.fn 91 [])) [.t 31,IC 5,.t 33])]))) (SQ [OM 35 4,OF 36 3 1,OL 37 36,OO 38 (.call (.c (.fn 91 [])) [.t 35,IC 8,.t 37])] (SQ [OM 39 4,OF 40 4 1,OL 41 40,OO 42 (.call (.c (.fn 91 [])) [.t 39,IC 8,.t 41])] (.seq (SQ [OF 43 0 1,OL 44 43,OJ 45 .eql 44 1] (CS 45 (SQ [OM 46 4,OF 47 5 1,OL 48 47,OO 49 (.call (.c (.fn 91 [])) [.t 46,IC 8,.t 48])] (.ops [OM 50 4,OF 51 6 1,OL 52 51,OO 53 (.call (.c (.fn 91 [])) [.t 50,IC 16,.t 52])])))) (.seq (SQ [OF 54 0 1,OL 55 54,OJ 56 .eql 55 2] (CS 56 (.ops [OM 57 4,OF 58 7 1,OL 59 58,OO 60 (.call (.c (.fn 93 [])) [.t 57,IC 16,.t 59])]))) (.seq (SQ [OF 61 0 1,OL 62 61,OJ 63 .eql 62 3] (CS 63 (SQ [OM 64 4,OF 65 8 1,OL 66 65,OO 67 (.call (.c (.fn 91 [])) [.t 64,IC 27,.t 66])] (SQ [OM 68 4,OF 69 9 1,OL 70 69,OO 71 (.call (.c (.fn 91 [])) [.t 68,IC 16,.t 70])] (.ops [OM 72 4,OF 73 10 1,OL 74 73,OO 75 (.call (.c (.fn 91 [])) [.t 72,IC 16,.t 74])]))))) (.seq (SQ [OF 76 0 1,OL 77 76,OJ 78 .neq 77 2] (CS 78 (.ops [OM 79 4,OF 80 11 1,OL 81 80,OO 82 (.call (.c (.fn 94 [])) [.t 79,IC 127,.t 81])]))) (SQ [OM 84 4,OC 85 95 [84],OM 83 85,OX 86 83 0,OX 87 83 1,OM 5 86,OM 6 87] (SQ [OM 88 5,OC 89 96 [88],OM 5 89] (.seq (SQ [OM 90 5,OO 91 (.lenS (.t 90)),OJ 92 .gtr 91 127] (CS 92 (SQ [OO 2 (.mov (.c (.str (.mk (.mk []))))),OK 3 8] .ret))) (SQ [OM 93 5,OM 2 93,OK 3 0] .ret))))))))))))))))),false⟩
theorem e51 : T 51 = some c51 := by kernel_rfl
def c54 : Fun1 := ⟨[.tmp 4,.tmp 5,.tmp 6],SQ [OG 2 0,OK 4 0,OK 5 0,OK 6 0] (SQ [OA 12 2 2,OM 13 1,OO 14 (.call (.c (.fn 50 [])) [.t 12,.t 13,IC 3221]),OM 11 14,OX 15 11 0,OX 16 11 1,OM 7 15,OM 8 16] (.seq (SQ [OM 17 8,OJ 18 .neq 17 0] (CS 18 (SQ [OM 19 8,OK 4 0,OK 5 0,OM 6 19] .ret))) (SQ [OA 21 2 2,OM 22 1,OO 23 (.call (.c (.fn 50 [])) [.t 21,.t 22,IC 1020]),OM 20 23,OX 24 20 0,OX 25 20 1,OM 9 24,OM 10 25] (SQ [OM 26 9,OM 27 7,OJ 28 .sub 27 1,OM 4 26,OM 5 28,OK 6 0] .ret)))),false⟩
theorem e54 : T 54 = some c54 := by kernel_rfl
def c58 : Fun1 := ⟨[.tmp 4],SQ [OK 4 0] (.seq (.drawn [DM 8 0,DN 9 8,DF 10 0 9,DF 11 9 10,DA 12 4 11,DM 13 0,DN 14 13,DF 15 13 14,DL 16 15,DM 17 0,DN 18 17,DF 19 14 18,DL 20 19,DM 21 1,DI 22 14 20 21,DF 23 1 22,DL 24 23,(OC 25 105 [12,16,24],DB),DM 7 25,(OX 26 7 0,DP),(OX 27 7 1,DP),DM 5 26,DM 6 27]) (SQ [OM 28 5,OM 4 28] .ret)),false⟩
theorem e58 : T 58 = some c58 := by kernel_rfl
def c59 : Fun1 := ⟨[.tmp 2],SQ [OG 1 0,OQ 2 false] (SQ [OA 3 2 1,OC 4 60 [3],OJ 5 .neq 4 0,OM 2 5] .ret),false⟩
theorem e59 : T 59 = some c59 := by kernel_rfl
def c60 : Fun1 := ⟨[.tmp 2],SQ [OG 1 0,OK 2 0] (.seq (SQ [OF 3 0 1,OL 4 3,OJ 5 .gtr 4 1099511627776,OM 6 5,OU 7 (.faddr 0 (.t 1)) 6,OU 8 (.load false 1 (.t 7)) 6,OU 9 (.bin .lss (.t 8) (IC (-1099511627776))) 6,OO 10 (.pick (.t 6) (.c (.bool true)) (.t 9)),OM 11 10,OU 12 (.faddr 1 (.t 1)) 11,OU 13 (.load false 1 (.t 12)) 11,OU 14 (.bin .lss (.t 13) (IC (-100000))) 11,OO 15 (.pick (.t 11) (.c (.bool true)) (.t 14)),OM 16 15,OU 17 (.faddr 1 (.t 1)) 16,OU 18 (.load false 1 (.t 17)) 16,OU 19 (.bin .gtr (.t 18) (IC 100000)) 16,OO 20 (.pick (.t 16) (.c (.bool true)) (.t 19))] (CS 20 (SQ [OK 2 1] .ret))) (SQ [OK 2 0] .ret)),false⟩
theorem e60 : T 60 = some c60 := by kernel_rfl
def c61 : Fun1 := ⟨[.tmp 2],SQ [OG 1 0,OK 2 0] (SQ [OO 3 (.alloc [.nilFn]),⟨none,.store 1 (.t 3) (.c (.fn 106 [])),none⟩] (.seq (SQ [OF 4 0 1,OL 5 4,OE 6 5,OJ 7 .lss 6 2,OM 8 7,OU 9 (.faddr 0 (.t 1)) 8,OU 10 (.load false 1 (.t 9)) 8,OU 11 (.len (.t 10)) 8,OU 12 (.bin .gtr (.t 11) (IC 32)) 8,OO 13 (.pick (.t 8) (.c (.bool true)) (.t 12)),OM 14 13,OU 15 (.faddr 0 (.t 1)) 14,OU 16 (.load false 1 (.t 15)) 14,OU 17 (.load false 1 (.t 3)) 14,OU 18 (.call (.c (.fn 108 [])) [.t 16,.t 17]) 14,OO 19 (.pick (.t 14) (.c (.bool true)) (.t 18))] (CS 19 (SQ [OK 2 1] .ret))) (.seq (SQ [OF 20 1 1,OL 21 20,OE 22 21,OF 23 0 1,OL 24 23,OE 25 24,OB 26 .neq 22 25,OM 27 26,OU 28 (.faddr 1 (.t 1)) 27,OU 29 (.load false 1 (.t 28)) 27,OU 30 (.call (.c (.fn 109 [])) [.t 29,.c (.fn 110 [])]) 27,OO 31 (.pick (.t 27) (.c (.bool true)) (.t 30))] (CS 31 (SQ [OK 2 1] .ret))) (.seq (SQ [OF 32 2 1,OL 33 32,OE 34 33,OJ 35 .gtr 34 32,OM 36 35,OU 37 (.faddr 2 (.t 1)) 36,OU 38 (.load false 1 (.t 37)) 36,OU 39 (.mkfn 113 [.t 3]) 36,OU 40 (.call (.c (.fn 112 [])) [.t 38,.t 39]) 36,OO 41 (.pick (.t 36) (.c (.bool true)) (.t 40))] (CS 41 (SQ [OK 2 1] .ret))) (.seq (SQ [OF 42 3 1,OL 43 42,OJ 44 .neq 43 2,OM 45 44,OT 46 (.faddr 3 (.t 1)) 45,OT 47 (.load false 1 (.t 46)) 45,OT 48 (.bin .neq (.t 47) (IC 4)) 45,OO 49 (.pick (.t 45) (.t 48) (.c (.bool false))),OM 50 49,OU 51 (.faddr 5 (.t 1)) 50,OU 52 (.load false 1 (.t 51)) 50,OU 53 (.bin .lss (.t 52) (IC 1000)) 50,OO 54 (.pick (.t 50) (.c (.bool true)) (.t 53)),OM 55 54,OU 56 (.faddr 5 (.t 1)) 55,OU 57 (.load false 1 (.t 56)) 55,OU 58 (.bin .gtr (.t 57) (IC 100000)) 55,OO 59 (.pick (.t 55) (.c (.bool true)) (.t 58)),OM 60 59,OU 61 (.faddr 4 (.t 1)) 60,OU 62 (.load false 1 (.t 61)) 60,OU 63 (.bin .lss (.t 62) (IC 1)) 60,OO 64 (.pick (.t 60) (.c (.bool true)) (.t 63)),OM 65 64,OU 66 (.faddr 4 (.t 1)) 65,OU 67 (.load false 1 (.t 66)) 65,OU 68 (.bin .gtr (.t 67) (IC 68719476736)) 65,OO 69 (.pick (.t 65) (.c (.bool true)) (.t 68))] (CS 69 (SQ [OK 2 1] .ret))) (SQ [OK 2 0] .ret)))))),false⟩
theorem e61 : T 61 = some c61 := by kernel_rfl
def c62 : Fun1 := ⟨[.tmp 2],SQ [OG 1 0,OK 2 0] (.seq (SQ [OF 3 0 1,OL 4 3,OE 5 4,OJ 6 .gtr 5 16,OM 7 6,OU 8 (.faddr 1 (.t 1)) 7,OU 9 (.load false 1 (.t 8)) 7,OU 10 (.len (.t 9)) 7,OU 11 (.bin .gtr (.t 10) (IC 64)) 7,OO 12 (.pick (.t 7) (.c (.bool true)) (.t 11))] (CS 12 (SQ [OK 2 1] .ret))) (.seq (SQ [OF 13 0 1,OL 14 13,OO 15 (.call (.c (.fn 114 [])) [.t 14,.c (.fn 115 [])]),OM 16 15,OU 17 (.faddr 1 (.t 1)) 16,OU 18 (.load false 1 (.t 17)) 16,OU 19 (.call (.c (.fn 117 [])) [.t 18,.c (.fn 118 [])]) 16,OO 20 (.pick (.t 16) (.c (.bool true)) (.t 19))] (CS 20 (SQ [OK 2 1] .ret))) (SQ [OK 2 0] .ret))),false⟩
theorem e62 : T 62 = some c62 := by kernel_rfl
def c63 : Fun1 := ⟨[.tmp 4],SQ [OQ 4 false] (SQ [OM 5 0,OM 6 1,OC 7 120 [5,6],OJ 8 .geq 7 0,OM 4 8] .ret),false⟩
theorem e63 : T 63 = some c63 := by kernel_rfl
def c64 : Fun1 := ⟨[.tmp 2],SQ [OG 1 0,OK 2 0] (.seq (SQ [OF 3 0 1,OL 4 3,OJ 5 .lss 4 0,OM 6 5,OU 7 (.faddr 0 (.t 1)) 6,OU 8 (.load false 1 (.t 7)) 6,OU 9 (.bin .geq (.t 8) (IC 256)) 6,OO 10 (.pick (.t 6) (.c (.bool true)) (.t 9)),OM 11 10,OU 12 (.faddr 1 (.t 1)) 11,OU 13 (.load false 1 (.t 12)) 11,OU 14 (.bin .lss (.t 13) (IC 0)) 11,OO 15 (.pick (.t 11) (.c (.bool true)) (.t 14)),OM 16 15,OU 17 (.faddr 1 (.t 1)) 16,OU 18 (.load false 1 (.t 17)) 16,OU 19 (.faddr 2 (.t 1)) 16,OU 20 (.load false 1 (.t 19)) 16,OU 21 (.bin .geq (.t 18) (.t 20)) 16,OO 22 (.pick (.t 16) (.c (.bool true)) (.t 21)),OM 23 22,OU 24 (.faddr 2 (.t 1)) 23,OU 25 (.load false 1 (.t 24)) 23,OU 26 (.bin .gtr (.t 25) (IC 109951163)) 23,OO 27 (.pick (.t 23) (.c (.bool true)) (.t 26)),OM 28 27,OU 29 (.faddr 3 (.t 1)) 28,OU 30 (.load false 1 (.t 29)) 28,OU 31 (.call (.c (.fn 121 [])) [.t 30]) 28,OU 32 (.notB (.t 31)) 28,OO 33 (.pick (.t 28) (.c (.bool true)) (.t 32))] (CS 33 (SQ [OK 2 1] .ret))) (SQ [OK 2 0] .ret)),false⟩
theorem e64 : T 64 = some c64 := by kernel_rfl
def c65 : Fun1 := ⟨[.tmp 4],SQ [OG 2 0,OQ 4 false] (SQ [OF 5 9 2,OF 6 1 5,OL 7 6,OM 8 1,OB 9 .leq 7 8,OM 10 9,PT 11 1 10,OT 12 (.faddr 9 (.t 2)) 10,OT 13 (.faddr 2 (.t 12)) 10,OT 14 (.load false 1 (.t 13)) 10,OT 15 (.bin .lss (.t 11) (.t 14)) 10,OO 16 (.pick (.t 10) (.t 15) (.c (.bool false))),OM 4 16] .ret),false⟩
theorem e65 : T 65 = some c65 := by kernel_rfl
def c66 : Fun1 := ⟨[.tmp 4,.tmp 5],SQ [OG 2 0,OK 4 0,OK 5 0] (.seq (SQ [OA 7 2 2,OM 8 1,OC 9 122 [7,8],OM 6 9] (SQ [OM 10 6,OJ 11 .neq 10 0] (CS 11 (SQ [OM 12 6,OK 4 0,OM 5 12] .ret)))) (SQ [OA 13 2 2,OO 14 (.callK 123 2 [.t 13]),OM 15 1,OJ 16 .mul 15 10000,OJ 17 .add 16 2120,OC 18 124 [14,17],OX 19 18 0,OX 20 18 1,OM 4 19,OM 5 20] .ret)),false⟩
theorem e66 : T 66 = some c66 := by kernel_rfl
def c67 : Fun1 := ⟨[.tmp 4,.tmp 5,.tmp 6],SQ [OG 2 0,OK 4 0,OK 5 0,OK 6 0] (.seq (SQ [OA 13 2 2,OM 14 1,OC 15 122 [13,14],OM 7 15] (SQ [OM 16 7,OJ 17 .neq 16 0] (CS 17 (SQ [OM 18 7,OK 4 0,OK 5 0,OM 6 18] .ret)))) (SQ [OM 19 1,OJ 20 .mul 19 10000,OJ 21 .add 20 2120,OM 8 21] (SQ [OA 23 2 2,OO 24 (.callK 123 2 [.t 23]),OM 25 8,OJ 26 .sub 25 1100,OC 27 124 [24,26],OM 22 27,OX 28 22 0,OX 29 22 1,OM 9 28,OM 10 29] (SQ [OA 31 2 2,OO 32 (.callK 123 2 [.t 31]),OM 33 8,OJ 34 .add 33 1100,OJ 35 .add 34 1,OC 36 124 [32,35],OM 30 36,OX 37 30 0,OX 38 30 1,OM 11 37,OM 12 38] (.seq (SQ [OM 39 10,OJ 40 .neq 39 0,OM 41 40,PU 42 12 41,OU 43 (.bin .neq (.t 42) (IC 0)) 41,OO 44 (.pick (.t 41) (.c (.bool true)) (.t 43))] (CS 44 (SQ [OK 4 0,OK 5 0,OK 6 15] .ret))) (SQ [OM 45 9,OM 46 11,OJ 47 .sub 46 1,OM 4 45,OM 5 47,OK 6 0] .ret)))))),false⟩
theorem e67 : T 67 = some c67 := by kernel_rfl
def c69 : Fun1 := ⟨[.tmp 2],SQ [OG 1 0,OK 2 0] (.seq (SQ [OF 3 0 1,OL 4 3,OJ 5 .lss 4 (-1099511627776),OM 6 5,OU 7 (.faddr 0 (.t 1)) 6,OU 8 (.load false 1 (.t 7)) 6,OU 9 (.bin .gtr (.t 8) (IC 1099511627776)) 6,OO 10 (.pick (.t 6) (.c (.bool true)) (.t 9)),OM 11 10,OU 12 (.faddr 1 (.t 1)) 11,OU 13 (.load false 1 (.t 12)) 11,OU 14 (.bin .lss (.t 13) (IC (-100000))) 11,OO 15 (.pick (.t 11) (.c (.bool true)) (.t 14)),OM 16 15,OU 17 (.faddr 1 (.t 1)) 16,OU 18 (.load false 1 (.t 17)) 16,OU 19 (.bin .gtr (.t 18) (IC 100000)) 16,OO 20 (.pick (.t 16) (.c (.bool true)) (.t 19))] (CS 20 (SQ [OK 2 1] .ret))) (SQ [OK 2 0] .ret)),false⟩
theorem e69 : T 69 = some c69 := by kernel_rfl
def c71 : Fun1 := ⟨[.tmp 4],SQ [OG 2 0,OK 4 0] (.seq (.drawn [DF 5 0 2,DL 6 5,DM 7 1,DD 8 .add 6 7,DM 9 1,DF 10 1 2,DL 11 10,DD 12 .mul 9 11,(OO 13 (.call (.c (.fn 126 [])) [.t 12,IC 1000000000]),DS),DD 14 .add 8 13,DM 4 14]) .ret),false⟩
theorem e71 : T 71 = some c71 := by kernel_rfl
def c72 : Fun1 := ⟨[.tmp 2],SQ [OG 1 0,OK 2 0] (.seq (SQ [OF 3 0 1,OL 4 3,OJ 5 .lss 4 0,OM 6 5,OU 7 (.faddr 0 (.t 1)) 6,OU 8 (.load false 1 (.t 7)) 6,OU 9 (.bin .gtr (.t 8) (IC 255)) 6,OO 10 (.pick (.t 6) (.c (.bool true)) (.t 9)),OM 11 10,OU 12 (.faddr 1 (.t 1)) 11,OU 13 (.load false 1 (.t 12)) 11,OU 14 (.bin .lss (.t 13) (IC 0)) 11,OO 15 (.pick (.t 11) (.c (.bool true)) (.t 14)),OM 16 15,OU 17 (.faddr 1 (.t 1)) 16,OU 18 (.load false 1 (.t 17)) 16,OU 19 (.faddr 2 (.t 1)) 16,OU 20 (.load false 1 (.t 19)) 16,OU 21 (.bin .geq (.t 18) (.t 20)) 16,OO 22 (.pick (.t 16) (.c (.bool true)) (.t 21)),OM 23 22,OU 24 (.faddr 2 (.t 1)) 23,OU 25 (.load false 1 (.t 24)) 23,OU 26 (.bin .gtr (.t 25) (IC 109951163)) 23,OO 27 (.pick (.t 23) (.c (.bool true)) (.t 26)),OM 28 27,OU 29 (.faddr 3 (.t 1)) 28,OU 30 (.load false 1 (.t 29)) 28,OU 31 (.call (.c (.fn 127 [])) [.t 30]) 28,OU 32 (.notB (.t 31)) 28,OO 33 (.pick (.t 28) (.c (.bool true)) (.t 32))] (CS 33 (SQ [OK 2 1] .ret))) (SQ [OK 2 0] .ret)),false⟩
theorem e72 : T 72 = some c72 := by kernel_rfl
def c73 : Fun1 := ⟨[.tmp 4],SQ [OG 2 0,OQ 4 false] (SQ [OM 5 1,OF 6 9 2,OF 7 1 6,OL 8 7,OB 9 .geq 5 8,OM 10 9,PT 11 1 10,OT 12 (.faddr 9 (.t 2)) 10,OT 13 (.faddr 2 (.t 12)) 10,OT 14 (.load false 1 (.t 13)) 10,OT 15 (.bin .lss (.t 11) (.t 14)) 10,OO 16 (.pick (.t 10) (.t 15) (.c (.bool false))),OM 4 16] .ret),false⟩
theorem e73 : T 73 = some c73 := by kernel_rfl
def c74 : Fun1 := ⟨[.tmp 6],SQ [OG 3 0,OG 5 2,OK 6 0] (.seq (SQ [OF 9 0 5,OL 10 9,OJ 11 .eql 10 0] (CS 11 (SQ [OK 6 0] .ret))) (.seq (SQ [OF 12 0 5,OL 13 12,OJ 14 .neq 13 1,OM 15 14,OT 16 (.faddr 0 (.t 5)) 15,OT 17 (.load false 1 (.t 16)) 15,OT 18 (.bin .neq (.t 17) (IC 2)) 15,OO 19 (.pick (.t 15) (.t 18) (.c (.bool false)))] (CS 19 (SQ [OK 6 1] .ret))) (.seq (SQ [OF 20 1 5,OL 21 20,OJ 22 .lss 21 0,OM 23 22,OU 24 (.faddr 1 (.t 5)) 23,OU 25 (.load false 1 (.t 24)) 23,OU 26 (.faddr 9 (.t 3)) 23,OU 27 (.faddr 3 (.t 26)) 23,OU 28 (.load false 1 (.t 27)) 23,OU 29 (.len (.t 28)) 23,OU 30 (.bin .geq (.t 25) (.t 29)) 23,OO 31 (.pick (.t 23) (.c (.bool true)) (.t 30))] (CS 31 (SQ [OK 6 2] .ret))) (.seq (SQ [OF 32 0 5,OL 33 32,OJ 34 .eql 33 1] (CS 34 (SQ [OF 36 2 5,OA 37 12 36,OC 38 51 [37],OM 35 38,OX 39 35 0,OX 40 35 1,OM 7 39,OM 8 40] (SQ [OM 41 8,OJ 42 .neq 41 0,OM 43 42,OU 44 (.faddr 2 (.t 5)) 43,OU 45 (.faddr 0 (.t 44)) 43,OU 46 (.load false 1 (.t 45)) 43,OU 47 (.bin .eql (.t 46) (IC 2)) 43,OO 48 (.pick (.t 43) (.c (.bool true)) (.t 47)),OM 49 48,OU 50 (.faddr 2 (.t 5)) 49,OU 51 (.faddr 1 (.t 50)) 49,OU 52 (.load false 1 (.t 51)) 49,PU 53 1 49,OU 54 (.bin .neq (.t 52) (.t 53)) 49,OO 55 (.pick (.t 49) (.c (.bool true)) (.t 54))] (CS 55 (SQ [OK 6 1] .ret)))))) (SQ [OK 6 0] .ret))))),false⟩
theorem e74 : T 74 = some c74 := by kernel_rfl
def c75 : Fun1 := ⟨[.tmp 2],SQ [OG 1 0,OK 2 0] (SQ [OF 7 0 1,OL 8 7,OE 9 8,OM 3 9] (.seq (SQ [OM 10 3,OJ 11 .lss 10 2,OM 12 11,PU 13 3 12,OU 14 (.bin .gtr (.t 13) (IC 32)) 12,OO 15 (.pick (.t 12) (.c (.bool true)) (.t 14)),OM 16 15,OU 17 (.faddr 1 (.t 1)) 16,OU 18 (.load false 1 (.t 17)) 16,OU 19 (.len (.t 18)) 16,PU 20 3 16,OU 21 (.bin .neq (.t 19) (.t 20)) 16,OO 22 (.pick (.t 16) (.c (.bool true)) (.t 21)),OM 23 22,OU 24 (.faddr 2 (.t 1)) 23,OU 25 (.load false 1 (.t 24)) 23,OU 26 (.len (.t 25)) 23,OU 27 (.bin .gtr (.t 26) (IC 32)) 23,OO 28 (.pick (.t 23) (.c (.bool true)) (.t 27)),OM 29 28,OU 30 (.faddr 3 (.t 1)) 29,OU 31 (.load false 1 (.t 30)) 29,OU 32 (.bin .neq (.t 31) (IC 2)) 29,PU 33 32 29,OT 34 (.faddr 3 (.t 1)) 33,OT 35 (.load false 1 (.t 34)) 33,OT 36 (.bin .neq (.t 35) (IC 4)) 33,OU 37 (.pick (.t 33) (.t 36) (.c (.bool false))) 29,OO 38 (.pick (.t 29) (.c (.bool true)) (.t 37)),OM 39 38,OU 40 (.faddr 5 (.t 1)) 39,OU 41 (.load false 1 (.t 40)) 39,OU 42 (.faddr 4 (.t 1)) 39,OU 43 (.load false 1 (.t 42)) 39,OU 44 (.call (.c (.fn 128 [])) [.t 41,.t 43]) 39,OU 45 (.notB (.t 44)) 39,OO 46 (.pick (.t 39) (.c (.bool true)) (.t 45))] (CS 46 (SQ [OK 2 1] .ret))) (.seq (SQ [OK 4 0] (.block 0 (.loop ⟨[1,3,4],[]⟩ (.seq (SQ [OM 47 4,OM 48 3,OB 49 .lss 47 48] (CX 49 0)) (.seq (.block 1 (SQ [OF 52 0 1,OL 53 52,OM 54 4,OI 55 2 53 54,OA 56 2 55,OC 57 129 [56],OH 58 57,OM 59 58,OU 60 (.faddr 1 (.t 1)) 59,OU 61 (.load false 1 (.t 60)) 59,PU 62 4 59,OU 63 (.iaddrS 1 (.t 61) (.t 62)) 59,OU 64 (.load false 1 (.t 63)) 59,OU 65 (.call (.c (.fn 130 [])) [.t 64]) 59,OU 66 (.notB (.t 65)) 59,OO 67 (.pick (.t 59) (.c (.bool true)) (.t 66))] (CS 67 (SQ [OK 2 1] .ret)))) (.ops [OM 50 4,OJ 51 .add 50 1,OM 4 51])))))) (.seq (SQ [OK 5 0] (.block 2 (.loop ⟨[1,5],[]⟩ (.seq (SQ [OM 68 5,OF 69 2 1,OL 70 69,OE 71 70,OB 72 .lss 68 71] (CX 72 2)) (.seq (.block 3 (SQ [OF 75 2 1,OL 76 75,OM 77 5,OI 78 5 76 77,OA 79 5 78,OO 6 (.alloc [.int .i64 0,.int .i64 0,.int .i64 0,.int .i64 0,.int .i64 0]),⟨none,.store 5 (.t 6) (.t 79),none⟩] (SQ [OF 80 0 6,OA 81 2 80,OC 82 129 [81],OH 83 82,OM 84 83,OU 85 (.faddr 2 (.t 6)) 84,OU 86 (.load true 2 (.t 85)) 84,OU 87 (.call (.c (.fn 129 [])) [.t 86]) 84,OU 88 (.notB (.t 87)) 84,OO 89 (.pick (.t 84) (.c (.bool true)) (.t 88)),OM 90 89,OU 91 (.faddr 4 (.t 6)) 90,OU 92 (.load false 1 (.t 91)) 90,OU 93 (.bin .lss (.t 92) (IC 0)) 90,OO 94 (.pick (.t 90) (.c (.bool true)) (.t 93)),OM 95 94,OU 96 (.faddr 4 (.t 6)) 95,OU 97 (.load false 1 (.t 96)) 95,OU 98 (.bin .gtr (.t 97) (IC 1000)) 95,OO 99 (.pick (.t 95) (.c (.bool true)) (.t 98))] (CS 99 (SQ [OK 2 1] .ret))))) (.ops [OM 73 5,OJ 74 .add 73 1,OM 5 74])))))) (SQ [OK 2 0] .ret))))),false⟩
theorem e75 : T 75 = some c75 := by kernel_rfl
def c76 : Fun1 := ⟨[.tmp 2],SQ [OG 1 0,OK 2 0] (.seq (SQ [OF 5 0 1,OL 6 5,OE 7 6,OJ 8 .gtr 7 16,OM 9 8,OU 10 (.faddr 1 (.t 1)) 9,OU 11 (.load false 1 (.t 10)) 9,OU 12 (.len (.t 11)) 9,OU 13 (.bin .gtr (.t 12) (IC 64)) 9,OO 14 (.pick (.t 9) (.c (.bool true)) (.t 13))] (CS 14 (SQ [OK 2 1] .ret))) (.seq (SQ [OK 3 0] (.block 0 (.loop ⟨[1,3],[]⟩ (.seq (SQ [OM 15 3,OF 16 0 1,OL 17 16,OE 18 17,OB 19 .lss 15 18] (CX 19 0)) (.seq (.block 1 (SQ [OF 22 0 1,OL 23 22,OM 24 3,OI 25 7 23 24,OA 26 7 25,OC 27 131 [26],OH 28 27] (CS 28 (SQ [OK 2 1] .ret)))) (.ops [OM 20 3,OJ 21 .add 20 1,OM 3 21])))))) (.seq (SQ [OK 4 0] (.block 2 (.loop ⟨[1,4],[]⟩ (.seq (SQ [OM 29 4,OF 30 1 1,OL 31 30,OE 32 31,OB 33 .lss 29 32] (CX 33 2)) (.seq (.block 3 (SQ [OF 36 1 1,OL 37 36,OM 38 4,OI 39 6 37 38,OA 40 6 39,OC 41 132 [40],OH 42 41] (CS 42 (SQ [OK 2 1] .ret)))) (.ops [OM 34 4,OJ 35 .add 34 1,OM 4 35])))))) (SQ [OK 2 0] .ret)))),false⟩
theorem e76 : T 76 = some c76 := by kernel_rfl
def c77 : Fun1 := ⟨[.tmp 6],SQ [OG 3 0,OG 5 2,OK 6 0] (.seq (SQ [OF 9 0 5,OL 10 9,OJ 11 .neq 10 0,OM 12 11,OT 13 (.faddr 0 (.t 5)) 12,OT 14 (.load false 1 (.t 13)) 12,OT 15 (.bin .neq (.t 14) (IC 1)) 12,OO 16 (.pick (.t 12) (.t 15) (.c (.bool false))),OM 17 16,OT 18 (.faddr 0 (.t 5)) 17,OT 19 (.load false 1 (.t 18)) 17,OT 20 (.bin .neq (.t 19) (IC 2)) 17,OO 21 (.pick (.t 17) (.t 20) (.c (.bool false)))] (CS 21 (SQ [OK 6 1] .ret))) (.seq (SQ [OF 22 0 5,OL 23 22,OJ 24 .eql 23 0] (CS 24 (SQ [OK 6 0] .ret))) (.seq (SQ [OF 25 1 5,OL 26 25,OJ 27 .lss 26 0,OM 28 27,OU 29 (.faddr 1 (.t 5)) 28,OU 30 (.load false 1 (.t 29)) 28,OU 31 (.faddr 9 (.t 3)) 28,OU 32 (.faddr 3 (.t 31)) 28,OU 33 (.load false 1 (.t 32)) 28,OU 34 (.len (.t 33)) 28,OU 35 (.bin .geq (.t 30) (.t 34)) 28,OO 36 (.pick (.t 28) (.c (.bool true)) (.t 35))] (CS 36 (SQ [OK 6 2] .ret))) (.seq (SQ [OF 38 2 5,OA 39 12 38,OC 40 133 [39],OM 37 40,OX 41 37 0,OX 42 37 1,OM 7 41,OM 8 42] (SQ [OF 43 0 5,OL 44 43,OJ 45 .eql 44 1,OM 46 45,PT 47 8 46,OT 48 (.bin .neq (.t 47) (IC 0)) 46,PT 49 48 46,OU 50 (.faddr 2 (.t 5)) 49,OU 51 (.faddr 0 (.t 50)) 49,OU 52 (.load false 1 (.t 51)) 49,OU 53 (.bin .eql (.t 52) (IC 2)) 49,OT 54 (.pick (.t 49) (.c (.bool true)) (.t 53)) 46,PT 55 54 46,OU 56 (.faddr 2 (.t 5)) 55,OU 57 (.faddr 1 (.t 56)) 55,OU 58 (.load false 1 (.t 57)) 55,PU 59 1 55,OU 60 (.bin .neq (.t 58) (.t 59)) 55,OT 61 (.pick (.t 55) (.c (.bool true)) (.t 60)) 46,OO 62 (.pick (.t 46) (.t 61) (.c (.bool false)))] (CS 62 (SQ [OK 6 1] .ret)))) (SQ [OK 6 0] .ret))))),false⟩
theorem e77 : T 77 = some c77 := by kernel_rfl
def c86 : Fun1 := ⟨[.tmp 2],SQ [OG 1 0,OQ 2 false] (SQ [OF 3 0 1,OL 4 3,OE 5 4,OJ 6 .leq 5 40,OM 7 6,OT 8 (.faddr 1 (.t 1)) 7,OT 9 (.load false 1 (.t 8)) 7,OT 10 (.len (.t 9)) 7,OT 11 (.bin .leq (.t 10) (IC 40)) 7,OO 12 (.pick (.t 7) (.t 11) (.c (.bool false))),OM 13 12,OT 14 (.faddr 2 (.t 1)) 13,OT 15 (.load false 1 (.t 14)) 13,OT 16 (.len (.t 15)) 13,OT 17 (.bin .leq (.t 16) (IC 40)) 13,OO 18 (.pick (.t 13) (.t 17) (.c (.bool false))),OM 2 18] .ret),false⟩
theorem e86 : T 86 = some c86 := by kernel_rfl
def c87 : Fun1 := ⟨[.tmp 2],SQ [OG 1 0,OQ 2 false] (.seq (SQ [OF 4 0 1,OL 5 4,OE 6 5,OJ 7 .gtr 6 20,OM 8 7,OU 9 (.faddr 1 (.t 1)) 8,OU 10 (.load false 1 (.t 9)) 8,OU 11 (.len (.t 10)) 8,OU 12 (.bin .gtr (.t 11) (IC 70)) 8,OO 13 (.pick (.t 8) (.c (.bool true)) (.t 12))] (CS 13 (SQ [OQ 2 false] .ret))) (.seq (SQ [OK 3 0] (.block 0 (.loop ⟨[1,3],[]⟩ (.seq (SQ [OM 14 3,OF 15 0 1,OL 16 15,OE 17 16,OB 18 .lss 14 17] (CX 18 0)) (.seq (.block 1 (SQ [OF 21 0 1,OL 22 21,OM 23 3,OI 24 7 22 23,OF 25 3 24,OL 26 25,OE 27 26,OJ 28 .gtr 27 20] (CS 28 (SQ [OQ 2 false] .ret)))) (.ops [OM 19 3,OJ 20 .add 19 1,OM 3 20])))))) (SQ [OQ 2 true] .ret))),false⟩
theorem e87 : T 87 = some c87 := by kernel_rfl
def c88 : Fun1 := ⟨[.tmp 4,.tmp 5],SQ [OG 2 0,OK 4 0,OK 5 0] (.seq (SQ [OA 9 2 2,OC 10 69 [9],OJ 11 .neq 10 0] (CS 11 (SQ [OK 4 0,OK 5 1] .ret))) (.seq (SQ [OA 12 2 2,OO 13 (.call (.c (.fn 71 [])) [.t 12,IC 1099511627776]),OM 14 1,OB 15 .lss 13 14] (CS 15 (SQ [OK 4 0,OK 5 15] .ret))) (SQ [OK 6 0,OK 7 1099511627776] (.seq (.block 0 (.loop ⟨[1,2,6,7],[]⟩ (.seq (SQ [OM 16 6,OM 17 7,OB 18 .lss 16 17] (CX 18 0)) (.block 1 (SQ [OM 19 6,OM 20 7,OB 21 .add 19 20,OJ 22 .quo 21 2,OM 8 22] (SQ [OA 23 2 2,OM 24 8,OC 25 71 [23,24],OM 26 1,OB 27 .geq 25 26] (.cond (.t 27) (.ops [OM 28 8,OM 7 28]) (.ops [OM 29 8,OJ 30 .add 29 1,OM 6 30])))))))) (SQ [OM 31 6,OM 4 31,OK 5 0] .ret))))),false⟩
theorem e88 : T 88 = some c88 := by kernel_rfl
end Go.Sh
namespace Go.Sh
set_option maxRecDepth 100000
def c89 : Fun1 := ⟨[.tmp 2],SQ [OG 1 0,OK 2 0] (.seq (.drawn [DF 7 0 1,DL 8 7,(OJ 9 .eql 8 1,DP),DF 10 0 1,DL 11 10,(OJ 12 .eql 11 2,DP),DF 13 0 1,DL 14 13,(OJ 15 .eql 14 3,DP),DF 16 0 1,DL 17 16,(OJ 18 .eql 17 4,DP),DM 3 9,DM 4 12,DM 5 15,DM 6 18]) (.seq (SQ [OM 19 3,OH 20 19,OM 21 20,PT 22 4 21,OT 23 (.notB (.t 22)) 21,OO 24 (.pick (.t 21) (.t 23) (.c (.bool false))),OM 25 24,PT 26 5 25,OT 27 (.notB (.t 26)) 25,OO 28 (.pick (.t 25) (.t 27) (.c (.bool false))),OM 29 28,PT 30 6 29,OT 31 (.notB (.t 30)) 29,OO 32 (.pick (.t 29) (.t 31) (.c (.bool false))),OM 33 32,OU 34 (.faddr 1 (.t 1)) 33,OU 35 (.load false 1 (.t 34)) 33,OU 36 (.call (.c (.fn 142 [])) [.t 35,IC 31]) 33,OU 37 (.notB (.t 36)) 33,OO 38 (.pick (.t 33) (.c (.bool true)) (.t 37)),OM 39 38,OU 40 (.faddr 3 (.t 1)) 39,OU 41 (.load false 1 (.t 40)) 39,OU 42 (.call (.c (.fn 142 [])) [.t 41,IC 255]) 39,OU 43 (.notB (.t 42)) 39,OO 44 (.pick (.t 39) (.c (.bool true)) (.t 43)),OM 45 44,OU 46 (.faddr 4 (.t 1)) 45,OU 47 (.load false 1 (.t 46)) 45,OU 48 (.call (.c (.fn 142 [])) [.t 47,IC 255]) 45,OU 49 (.notB (.t 48)) 45,OO 50 (.pick (.t 45) (.c (.bool true)) (.t 49))] (CS 50 (SQ [OK 2 1] .ret))) (.seq (.block 0 (.seq (SQ [OM 52 5,OM 53 52,OT 54 (.faddr 2 (.t 1)) 53,OT 55 (.load false 1 (.t 54)) 53,OT 56 (.bin .neq (.t 55) (IC (-1))) 53,OO 57 (.pick (.t 53) (.t 56) (.c (.bool false))),OM 51 57] (.cond (.t 51) .skip (SQ [OF 58 2 1,OL 59 58,OJ 60 .lss 59 (-1),OM 61 60,OU 62 (.faddr 2 (.t 1)) 61,OU 63 (.load false 1 (.t 62)) 61,OU 64 (.bin .gtr (.t 63) (IC 31)) 61,OO 65 (.pick (.t 61) (.c (.bool true)) (.t 64)),OM 66 65,OU 67 (.faddr 2 (.t 1)) 66,OU 68 (.load false 1 (.t 67)) 66,OU 69 (.faddr 1 (.t 1)) 66,OU 70 (.load false 1 (.t 69)) 66,OU 71 (.bin .eql (.t 68) (.t 70)) 66,OO 72 (.pick (.t 66) (.c (.bool true)) (.t 71)),OM 51 72] (.cond (.t 51) .skip (.ops [OM 73 3,OM 74 73,PU 75 4 74,OO 76 (.pick (.t 74) (.c (.bool true)) (.t 75)),OM 77 76,OT 78 (.faddr 2 (.t 1)) 77,OT 79 (.load false 1 (.t 78)) 77,OT 80 (.bin .eql (.t 79) (IC (-1))) 77,OO 81 (.pick (.t 77) (.t 80) (.c (.bool false))),OM 51 81]))))) (.cond (.t 51) (SQ [OK 2 1] .ret) (.seq (SQ [OM 83 3,OH 84 83,OM 85 84,OT 86 (.faddr 5 (.t 1)) 85,OT 87 (.load false 1 (.t 86)) 85,OT 88 (.bin .neq (.t 87) (IC 0)) 85,PT 89 88 85,OU 90 (.faddr 6 (.t 1)) 89,OU 91 (.load false 1 (.t 90)) 89,OU 92 (.bin .neq (.t 91) (IC 0)) 89,OT 93 (.pick (.t 89) (.c (.bool true)) (.t 92)) 85,OO 94 (.pick (.t 85) (.t 93) (.c (.bool false))),OM 82 94] (.cond (.t 82) .skip (SQ [OM 95 4,OH 96 95,OM 97 96,OT 98 (.faddr 7 (.t 1)) 97,OT 99 (.load false 1 (.t 98)) 97,OT 100 (.bin .neq (.t 99) (IC 0)) 97,OO 101 (.pick (.t 97) (.t 100) (.c (.bool false))),OM 82 101] (.cond (.t 82) .skip (SQ [OM 102 5,OH 103 102,OM 104 103,OT 105 (.faddr 8 (.t 1)) 104,OT 106 (.load false 1 (.t 105)) 104,OT 107 (.bin .neq (.t 106) (IC 0)) 104,PT 108 107 104,OU 109 (.faddr 9 (.t 1)) 108,OU 110 (.load false 1 (.t 109)) 108,OU 111 (.bin .neq (.t 110) (IC 0)) 108,OT 112 (.pick (.t 108) (.c (.bool true)) (.t 111)) 104,PT 113 112 104,OU 114 (.faddr 10 (.t 1)) 113,OU 115 (.load false 1 (.t 114)) 113,OU 116 (.bin .neq (.t 115) (IC 0)) 113,OT 117 (.pick (.t 113) (.c (.bool true)) (.t 116)) 104,OO 118 (.pick (.t 104) (.t 117) (.c (.bool false))),OM 82 118] (.cond (.t 82) .skip (.ops [OM 119 4,OM 120 119,OT 121 (.faddr 11 (.t 1)) 120,OT 122 (.load false 1 (.t 121)) 120,OT 123 (.bin .neq (.t 122) (.c (.str (.mk (.mk []))))) 120,OO 124 (.pick (.t 120) (.t 123) (.c (.bool false))),OM 82 124]))))))) (.cond (.t 82) (SQ [OK 2 1] .ret) (SQ [OF 126 5 1,OL 127 126,OO 128 (.call (.c (.fn 142 [])) [.t 127,IC 255]),OH 129 128,OM 130 129,OU 131 (.faddr 6 (.t 1)) 130,OU 132 (.load false 1 (.t 131)) 130,OU 133 (.call (.c (.fn 142 [])) [.t 132,IC 65535]) 130,OU 134 (.notB (.t 133)) 130,OO 135 (.pick (.t 130) (.c (.bool true)) (.t 134)),OM 136 135,OU 137 (.faddr 7 (.t 1)) 136,OU 138 (.load false 1 (.t 137)) 136,OU 139 (.bin .lss (.t 138) (IC (-32768))) 136,OO 140 (.pick (.t 136) (.c (.bool true)) (.t 139)),OM 141 140,OU 142 (.faddr 7 (.t 1)) 141,OU 143 (.load false 1 (.t 142)) 141,OU 144 (.bin .gtr (.t 143) (IC 32767)) 141,OO 145 (.pick (.t 141) (.c (.bool true)) (.t 144)),OM 146 145,OU 147 (.faddr 8 (.t 1)) 146,OU 148 (.load false 1 (.t 147)) 146,OU 149 (.call (.c (.fn 142 [])) [.t 148,IC 109951162]) 146,OU 150 (.notB (.t 149)) 146,OO 151 (.pick (.t 146) (.c (.bool true)) (.t 150)),OM 152 151,OU 153 (.faddr 9 (.t 1)) 152,OU 154 (.load false 1 (.t 153)) 152,OU 155 (.call (.c (.fn 142 [])) [.t 154,IC 65535]) 152,OU 156 (.notB (.t 155)) 152,OO 157 (.pick (.t 152) (.c (.bool true)) (.t 156)),OM 158 157,OU 159 (.faddr 10 (.t 1)) 158,OU 160 (.load false 1 (.t 159)) 158,OU 161 (.call (.c (.fn 142 [])) [.t 160,IC 65535]) 158,OU 162 (.notB (.t 161)) 158,OO 163 (.pick (.t 158) (.c (.bool true)) (.t 162)),OM 125 163] (CS 125 (SQ [OK 2 1] .ret)))))))) (SQ [OK 2 0] .ret)))),false⟩
theorem e89 : T 89 = some c89 := by kernel_rfl
def c90 : Fun1 := ⟨[.tmp 0],SQ [OO 0 (.mov (.c .nilPtr))] (SQ [OO 1 (.build [.lst 0 [] true,.int .i64 0] []),OG 2 1,OM 0 2] .ret),false⟩
theorem e90 : T 90 = some c90 := by kernel_rfl
def c91 : Fun1 := ⟨[],.seq (SQ [OM 6 0,ON 7 6,OF 8 1 7,OL 9 8,OJ 10 .neq 9 0] (CS 10 .ret)) (.seq (SQ [OM 11 1,OJ 12 .lss 11 1,OM 13 12,PU 14 1 13,OU 15 (.bin .gtr (.t 14) (IC 63)) 13,OO 16 (.pick (.t 13) (.c (.bool true)) (.t 15))] (CS 16 (SQ [OM 17 0,ON 18 17,OF 19 1 18,⟨none,.store 1 (.t 19) (IC 1),none⟩] .ret))) (.seq (SQ [OM 20 2,OJ 21 .lss 20 0,OM 22 21,PU 23 1 22,OU 24 (.bin .lss (.t 23) (IC 63)) 22,PU 25 24 22,PT 26 2 25,PT 27 1 25,OT 28 (.bin .shl (IC 1) (.t 27)) 25,OT 29 (.bin .geq (.t 26) (.t 28)) 25,OU 30 (.pick (.t 25) (.t 29) (.c (.bool false))) 22,OO 31 (.pick (.t 22) (.c (.bool true)) (.t 30))] (CS 31 (SQ [OM 32 0,ON 33 32,OF 34 1 33,⟨none,.store 1 (.t 34) (IC 2),none⟩] .ret))) (SQ [OM 35 0,OM 36 1,OC 37 143 [35,36]] (CS 37 (.ops [OM 38 0,OM 39 1,OM 40 2,OC 41 144 [38,39,40]]))))),false⟩
theorem e91 : T 91 = some c91 := by kernel_rfl
def c92 : Fun1 := ⟨[],.seq (SQ [OM 4 0,OO 5 (.call (.c (.fn 143 [])) [.t 4,IC 1]),OH 6 5] (CS 6 .ret)) (SQ [OM 7 1] (.cond (.t 7) (.ops [OM 8 0,OM 9 0,ON 10 9,OF 11 0 10,OL 12 11,OO 13 (.blist 1 [.int .u8 0] 1 [(0,.c (.int .u8 1))]),OO 14 (.append 1 1 (.t 12) (.t 13)),ON 15 8,OF 16 0 15,⟨none,.store 1 (.t 16) (.t 14),none⟩]) (.ops [OM 17 0,OM 18 0,ON 19 18,OF 20 0 19,OL 21 20,OO 22 (.blist 1 [.int .u8 0] 1 [(0,.c (.int .u8 0))]),OO 23 (.append 1 1 (.t 21) (.t 22)),ON 24 17,OF 25 0 24,⟨none,.store 1 (.t 25) (.t 23),none⟩]))),false⟩
theorem e92 : T 92 = some c92 := by kernel_rfl
def c93 : Fun1 := ⟨[],.seq (SQ [OM 6 0,ON 7 6,OF 8 1 7,OL 9 8,OJ 10 .neq 9 0] (CS 10 .ret)) (.seq (SQ [OM 11 1,OJ 12 .lss 11 2,OM 13 12,PU 14 1 13,OU 15 (.bin .gtr (.t 14) (IC 63)) 13,OO 16 (.pick (.t 13) (.c (.bool true)) (.t 15))] (CS 16 (SQ [OM 17 0,ON 18 17,OF 19 1 18,⟨none,.store 1 (.t 19) (IC 1),none⟩] .ret))) (.seq (SQ [OM 20 2,OM 21 1,OJ 22 .sub 21 1,OO 23 (.bin .shl (IC 1) (.t 22)),OO 24 (.negI (.t 23)),OB 25 .lss 20 24,OM 26 25,PU 27 2 26,PU 28 1 26,OU 29 (.bin .sub (.t 28) (IC 1)) 26,OU 30 (.bin .shl (IC 1) (.t 29)) 26,OU 31 (.bin .sub (.t 30) (IC 1)) 26,OU 32 (.bin .gtr (.t 27) (.t 31)) 26,OO 33 (.pick (.t 26) (.c (.bool true)) (.t 32))] (CS 33 (SQ [OM 34 0,ON 35 34,OF 36 1 35,⟨none,.store 1 (.t 36) (IC 2),none⟩] .ret))) (SQ [OM 37 0,OM 38 1,OC 39 143 [37,38]] (CS 39 (.ops [OM 40 0,OM 41 1,OM 42 2,OC 43 144 [40,41,42]]))))),false⟩
theorem e93 : T 93 = some c93 := by kernel_rfl
def c94 : Fun1 := ⟨[],.seq (SQ [OM 7 0,ON 8 7,OF 9 1 8,OL 10 9,OJ 11 .neq 10 0] (CS 11 .ret)) (.seq (SQ [OM 12 1,OJ 13 .lss 12 1,OM 14 13,PU 15 1 14,OU 16 (.bin .gtr (.t 15) (IC 4095)) 14,OO 17 (.pick (.t 14) (.c (.bool true)) (.t 16))] (CS 17 (SQ [OM 18 0,ON 19 18,OF 20 1 19,⟨none,.store 1 (.t 20) (IC 1),none⟩] .ret))) (.seq (SQ [OM 21 2,OO 22 (.lenS (.t 21)),OM 23 1,OB 24 .gtr 22 23] (CS 24 (SQ [OM 25 0,ON 26 25,OF 27 1 26,⟨none,.store 1 (.t 27) (IC 8),none⟩] .ret))) (.seq (SQ [OM 28 0,OM 29 1,OC 30 145 [29],OM 31 2,OO 32 (.lenS (.t 31)),OO 33 (.bin .mul (IC 8) (.t 32)),OB 34 .add 30 33,OC 35 143 [28,34],OH 36 35] (CS 36 .ret)) (SQ [OM 37 0,OM 38 1,OC 39 145 [38],OM 40 2,OO 41 (.lenS (.t 40)),OC 42 144 [37,39,41]] (SQ [OK 6 0] (.block 0 (.loop ⟨[0,2,6],[]⟩ (.seq (SQ [OM 43 6,OM 44 2,OO 45 (.lenS (.t 44)),OB 46 .lss 43 45] (CX 46 0)) (.seq (.block 1 (.ops [OM 49 0,OM 50 2,OM 51 6,OO 52 (.indexS (.t 50) (.t 51)),OO 53 (.convI .i64 (.t 52)),OO 54 (.call (.c (.fn 144 [])) [.t 49,IC 8,.t 53])])) (.ops [OM 47 6,OJ 48 .add 47 1,OM 6 48])))))))))),false⟩
theorem e94 : T 94 = some c94 := by kernel_rfl
def c95 : Fun1 := ⟨[.tmp 2,.tmp 3],SQ [OO 2 (.mov (.c (.str (.mk (.mk []))))),OK 3 0] (.seq (SQ [OM 6 0,ON 7 6,OF 8 1 7,OL 9 8,OJ 10 .neq 9 0] (CS 10 (.seq (.drawn [DM 11 0,(ON 12 11,DB),(OF 13 1 12,DB),(OL 14 13,DB),(OO 2 (.mov (.c (.str (.mk (.mk []))))),DP),DM 3 14]) .ret))) (SQ [OM 15 0,ON 16 15,OF 17 0 16,OL 18 17,OE 19 18,OJ 20 .add 19 7,OJ 21 .quo 20 8,OO 22 (.mkslice 1 [.int .u8 0] 1 (.t 21) (.t 21)),OM 4 22] (.seq (SQ [OK 5 0] (.block 0 (.loop ⟨[0,4,5],[]⟩ (.seq (SQ [OM 23 5,OM 24 0,ON 25 24,OF 26 0 25,OL 27 26,OE 28 27,OB 29 .lss 23 28] (CX 29 0)) (.seq (.block 1 (.drawn [DM 32 4,DM 33 5,(OJ 34 .quo 33 8,DP),DM 35 4,DM 36 5,(OJ 37 .quo 36 8,DP),DI 38 1 35 37,DL 39 38,DM 40 0,DN 41 40,DF 42 0 41,DL 43 42,DM 44 5,DI 45 1 43 44,DL 46 45,DM 47 5,(OJ 48 .rem 47 8,DP),(OO 49 (.bin .sub (IC 7) (.t 48)),DP),DD 50 .shl 46 49,DD 51 .or 39 50,(OI 52 1 32 34,DB),(⟨none,.store 1 (.t 52) (.t 51),none⟩,DB)])) (.ops [OM 30 5,OJ 31 .add 30 1,OM 5 31])))))) (SQ [OM 53 4,OO 54 (.convBS (.t 53)),OM 2 54,OK 3 0] .ret)))),false⟩
theorem e95 : T 95 = some c95 := by kernel_rfl
def c96 : Fun1 := ⟨[.tmp 2],SQ [OO 2 (.mov (.c (.str (.mk (.mk [])))))] (SQ [OM 4 0,OC 5 146 [4],OM 3 5] (SQ [OM 6 0,OM 7 3,OO 8 (.bin .shr (.t 7) (.c (.int .u64 8))),OO 9 (.convI .u8 (.t 8)),OM 10 3,OO 11 (.convI .u8 (.t 10)),OO 12 (.blist 1 [.int .u8 0] 2 [(0,.t 9),(1,.t 11)]),OO 13 (.convBS (.t 12)),OB 14 .add 6 13,OM 2 14] .ret)),false⟩
theorem e96 : T 96 = some c96 := by kernel_rfl
def c98 : Fun1 := ⟨[.tmp 2],SQ [OQ 2 false] (SQ [OM 3 0,OJ 4 .geq 3 0,OM 5 4,PT 6 0 5,OT 7 (.bin .lss (.t 6) (IC 16)) 5,OO 8 (.pick (.t 5) (.t 7) (.c (.bool false))),OM 2 8] .ret),false⟩
theorem e98 : T 98 = some c98 := by kernel_rfl
def c99 : Fun1 := ⟨[.tmp 4],SQ [OQ 4 false] (SQ [OM 5 0,OJ 6 .geq 5 0,OM 7 6,PT 8 0 7,PT 9 1 7,OT 10 (.bin .leq (.t 8) (.t 9)) 7,OO 11 (.pick (.t 7) (.t 10) (.c (.bool false))),OM 12 11,PT 13 1 12,OT 14 (.bin .leq (.t 13) (IC 1099511627776)) 12,OO 15 (.pick (.t 12) (.t 14) (.c (.bool false))),OM 4 15] .ret),false⟩
theorem e99 : T 99 = some c99 := by kernel_rfl
def c105 : Fun1 := ⟨[.tmp 6,.tmp 7],SQ [OG 3 0,OG 5 2,OK 6 0,OK 7 0] (.seq (.block 0 (SQ [OA 11 4 3,OC 12 64 [11],OJ 13 .neq 12 0,OM 10 13] (.cond (.t 10) (SQ [OK 6 0,OK 7 1] .ret) (SQ [OM 15 1,OF 16 1 3,OL 17 16,OB 18 .lss 15 17,OM 19 18,PU 20 1 19,OU 21 (.faddr 2 (.t 3)) 19,OU 22 (.load false 1 (.t 21)) 19,OU 23 (.bin .geq (.t 20) (.t 22)) 19,OO 24 (.pick (.t 19) (.c (.bool true)) (.t 23)),OM 14 24] (.cond (.t 14) (SQ [OK 6 0,OK 7 12] .ret) (SQ [OL 26 5,OJ 27 .lss 26 0,OM 28 27,OU 29 (.load false 1 (.t 5)) 28,OU 30 (.faddr 3 (.t 3)) 28,OU 31 (.load false 1 (.t 30)) 28,OU 32 (.len (.t 31)) 28,OU 33 (.bin .geq (.t 29) (.t 32)) 28,OO 34 (.pick (.t 28) (.c (.bool true)) (.t 33)),OM 25 34] (CS 25 (SQ [OK 6 0,OK 7 2] .ret)))))))) (SQ [OO 8 (.alloc [.int .i64 0]),⟨none,.store 1 (.t 8) (IC 0),none⟩] (.seq (.seq (.drawn [DF 35 3 3,DL 36 35,DM 37 1,DF 38 3 3,DL 39 38,DE 40 39,DD 41 .rem 37 40,(OO 42 (.callK 154 2 [.t 36,.t 41]),DB)]) (.block 1 (.rangeF (.t 42) [43] (.ops [OM 9 43]) (.block 2 (SQ [OM 44 9,⟨none,.store 1 (.t 8) (.t 44),none⟩] (.seq (SQ [OL 45 5,OJ 46 .eql 45 0] (CS 46 (.exit 1))) (.ops [OL 47 5,OJ 48 .sub 47 1,⟨none,.store 1 (.t 5) (.t 48),none⟩]))))))) (SQ [OL 49 8,OM 6 49,OK 7 0] .ret)))),false⟩
theorem e105 : T 105 = some c105 := by kernel_rfl
def c106 : Fun1 := ⟨[.tmp 2],SQ [OG 1 0,OQ 2 false] (SQ [OA 3 2 1,OC 4 107 [3],OH 5 4,OM 2 5] .ret),false⟩
theorem e106 : T 106 = some c106 := by kernel_rfl
def c107 : Fun1 := ⟨[.tmp 2],SQ [OG 1 0,OQ 2 false] (SQ [OF 3 0 1,OL 4 3,OF 5 1 1,OL 6 5,OO 7 (.minI [.t 4,.t 6]),OJ 8 .geq 7 0,OM 9 8,OT 10 (.faddr 0 (.t 1)) 9,OT 11 (.load false 1 (.t 10)) 9,OT 12 (.faddr 1 (.t 1)) 9,OT 13 (.load false 1 (.t 12)) 9,OT 14 (.maxI [.t 11,.t 13]) 9,OT 15 (.bin .leq (.t 14) (IC 10000)) 9,OO 16 (.pick (.t 9) (.t 15) (.c (.bool false))),OM 2 16] .ret),false⟩
theorem e107 : T 107 = some c107 := by kernel_rfl
def c108 : Fun1 := ⟨[.tmp 4],SQ [OQ 4 false] (SQ [OM 5 0,OM 6 1,OC 7 155 [5,6],OJ 8 .geq 7 0,OM 4 8] .ret),false⟩
theorem e108 : T 108 = some c108 := by kernel_rfl
def c109 : Fun1 := ⟨[.tmp 4],SQ [OQ 4 false] (SQ [OM 5 0,OM 6 1,OC 7 156 [5,6],OJ 8 .geq 7 0,OM 4 8] .ret),false⟩
theorem e109 : T 109 = some c109 := by kernel_rfl
def c110 : Fun1 := ⟨[.tmp 2],SQ [OQ 2 false] (SQ [OM 3 0,OC 4 111 [3],OH 5 4,OM 2 5] .ret),false⟩
theorem e110 : T 110 = some c110 := by kernel_rfl
def c111 : Fun1 := ⟨[.tmp 2],SQ [OQ 2 false] (SQ [OM 3 0,OJ 4 .geq 3 0,OM 5 4,PT 6 0 5,OT 7 (.bin .leq (.t 6) (IC 68719476736)) 5,OO 8 (.pick (.t 5) (.t 7) (.c (.bool false))),OM 2 8] .ret),false⟩
theorem e111 : T 111 = some c111 := by kernel_rfl
def c112 : Fun1 := ⟨[.tmp 4],SQ [OQ 4 false] (SQ [OM 5 0,OM 6 1,OC 7 157 [5,6],OJ 8 .geq 7 0,OM 4 8] .ret),false⟩
theorem e112 : T 112 = some c112 := by kernel_rfl
def c113 : Fun1 := ⟨[.tmp 3],SQ [OG 2 0,OQ 3 false] (SQ [OL 4 1,OF 5 0 2,OA 6 2 5,OO 7 (.call (.t 4) [.t 6]),OM 8 7,OU 9 (.load false 1 (.t 1)) 8,OU 10 (.faddr 2 (.t 2)) 8,OU 11 (.load true 2 (.t 10)) 8,OU 12 (.call (.t 9) [.t 11]) 8,OO 13 (.pick (.t 8) (.c (.bool true)) (.t 12)),OM 14 13,OU 15 (.faddr 4 (.t 2)) 14,OU 16 (.load false 1 (.t 15)) 14,OU 17 (.bin .lss (.t 16) (IC 0)) 14,OO 18 (.pick (.t 14) (.c (.bool true)) (.t 17)),OM 19 18,OU 20 (.faddr 4 (.t 2)) 19,OU 21 (.load false 1 (.t 20)) 19,OU 22 (.bin .gtr (.t 21) (IC 1000)) 19,OO 23 (.pick (.t 19) (.c (.bool true)) (.t 22)),OM 3 23] .ret),false⟩
theorem e113 : T 113 = some c113 := by kernel_rfl
def c114 : Fun1 := ⟨[.tmp 4],SQ [OQ 4 false] (SQ [OM 5 0,OM 6 1,OC 7 158 [5,6],OJ 8 .geq 7 0,OM 4 8] .ret),false⟩
theorem e114 : T 114 = some c114 := by kernel_rfl
def c115 : Fun1 := ⟨[.tmp 2],SQ [OG 1 0,OQ 2 false] (SQ [OA 3 7 1,OC 4 116 [3],OH 5 4,OM 2 5] .ret),false⟩
theorem e115 : T 115 = some c115 := by kernel_rfl
def c116 : Fun1 := ⟨[.tmp 2],SQ [OG 1 0,OQ 2 false] (.seq (SQ [OF 5 0 1,OF 6 0 5,OL 7 6,OF 8 0 1,OF 9 1 8,OL 10 9,OO 11 (.minI [.t 7,.t 10]),OJ 12 .lss 11 0,OM 13 12,OU 14 (.faddr 0 (.t 1)) 13,OU 15 (.faddr 0 (.t 14)) 13,OU 16 (.load false 1 (.t 15)) 13,OU 17 (.faddr 0 (.t 1)) 13,OU 18 (.faddr 1 (.t 17)) 13,OU 19 (.load false 1 (.t 18)) 13,OU 20 (.maxI [.t 16,.t 19]) 13,OU 21 (.bin .gtr (.t 20) (IC 10000)) 13,OO 22 (.pick (.t 13) (.c (.bool true)) (.t 21)),OM 23 22,OU 24 (.faddr 2 (.t 1)) 23,OU 25 (.load false 1 (.t 24)) 23,OU 26 (.bin .lss (.t 25) (IC 0)) 23,OO 27 (.pick (.t 23) (.c (.bool true)) (.t 26)),OM 28 27,OU 29 (.faddr 2 (.t 1)) 28,OU 30 (.load false 1 (.t 29)) 28,OU 31 (.bin .gtr (.t 30) (IC 68719476736)) 28,OO 32 (.pick (.t 28) (.c (.bool true)) (.t 31))] (CS 32 (SQ [OQ 2 false] .ret))) (.seq (SQ [OF 33 3 1,OL 34 33,OE 35 34,OK 36 0] (.block 0 (.loop ⟨[1,34,35,36],[]⟩ (SQ [OB 37 .lss 36 35] (.seq (CX 37 0) (.seq (.block 1 (SQ [OM 38 36,OI 39 1 34 36,OL 40 39,OM 3 38,OM 4 40] (SQ [OM 41 4,OC 42 159 [41],OH 43 42,OM 44 43,PU 45 3 44,OU 46 (.bin .gtr (.t 45) (IC 0)) 44,PU 47 46 44,PT 48 4 47,OT 49 (.faddr 3 (.t 1)) 47,OT 50 (.load false 1 (.t 49)) 47,PT 51 3 47,OT 52 (.bin .sub (.t 51) (IC 1)) 47,OT 53 (.iaddrS 1 (.t 50) (.t 52)) 47,OT 54 (.load false 1 (.t 53)) 47,OT 55 (.bin .leq (.t 48) (.t 54)) 47,OU 56 (.pick (.t 47) (.t 55) (.c (.bool false))) 44,OO 57 (.pick (.t 44) (.c (.bool true)) (.t 56))] (CS 57 (SQ [OQ 2 false] .ret))))) (.ops [OJ 58 .add 36 1,OM 36 58]))))))) (SQ [OF 59 5 1,OL 60 59,OJ 61 .geq 60 0,OM 62 61,OT 63 (.faddr 5 (.t 1)) 62,OT 64 (.load false 1 (.t 63)) 62,OT 65 (.faddr 6 (.t 1)) 62,OT 66 (.load false 1 (.t 65)) 62,OT 67 (.bin .leq (.t 64) (.t 66)) 62,OO 68 (.pick (.t 62) (.t 67) (.c (.bool false))),OM 69 68,OT 70 (.faddr 6 (.t 1)) 69,OT 71 (.load false 1 (.t 70)) 69,OT 72 (.faddr 4 (.t 1)) 69,OT 73 (.load false 1 (.t 72)) 69,OT 74 (.bin .leq (.t 71) (.t 73)) 69,OO 75 (.pick (.t 69) (.t 74) (.c (.bool false))),OM 76 75,OT 77 (.faddr 4 (.t 1)) 76,OT 78 (.load false 1 (.t 77)) 76,OT 79 (.bin .geq (.t 78) (IC 1)) 76,OO 80 (.pick (.t 76) (.t 79) (.c (.bool false))),OM 81 80,OT 82 (.faddr 4 (.t 1)) 81,OT 83 (.load false 1 (.t 82)) 81,OT 84 (.bin .leq (.t 83) (IC 1000000000)) 81,OO 85 (.pick (.t 81) (.t 84) (.c (.bool false))),OM 2 85] .ret))),false⟩
theorem e116 : T 116 = some c116 := by kernel_rfl
def c117 : Fun1 := ⟨[.tmp 4],SQ [OQ 4 false] (SQ [OM 5 0,OM 6 1,OC 7 160 [5,6],OJ 8 .geq 7 0,OM 4 8] .ret),false⟩
theorem e117 : T 117 = some c117 := by kernel_rfl
def c118 : Fun1 := ⟨[.tmp 2],SQ [OG 1 0,OQ 2 false] (SQ [OA 3 6 1,OC 4 119 [3],OH 5 4,OM 2 5] .ret),false⟩
theorem e118 : T 118 = some c118 := by kernel_rfl
def c119 : Fun1 := ⟨[.tmp 2],SQ [OG 1 0,OQ 2 false] (SQ [OO 3 (.mov (.c (.fn 161 [])))] (SQ [OM 4 3,OF 5 0 1,OL 6 5,OO 7 (.call (.t 4) [.t 6]),OM 8 7,PT 9 3 8,OT 10 (.faddr 1 (.t 1)) 8,OT 11 (.load false 1 (.t 10)) 8,OT 12 (.call (.t 9) [.t 11]) 8,OO 13 (.pick (.t 8) (.t 12) (.c (.bool false))),OM 14 13,OT 15 (.faddr 2 (.t 1)) 14,OT 16 (.load false 1 (.t 15)) 14,OT 17 (.bin .eql (.t 16) (IC (-1))) 14,PT 18 17 14,OU 19 (.faddr 2 (.t 1)) 18,OU 20 (.load false 1 (.t 19)) 18,OU 21 (.call (.c (.fn 159 [])) [.t 20]) 18,OT 22 (.pick (.t 18) (.c (.bool true)) (.t 21)) 14,OO 23 (.pick (.t 14) (.t 22) (.c (.bool false))),OM 24 23,OT 25 (.faddr 3 (.t 1)) 24,OT 26 (.load false 1 (.t 25)) 24,OT 27 (.faddr 4 (.t 1)) 24,OT 28 (.load false 1 (.t 27)) 24,OT 29 (.call (.c (.fn 163 [])) [.t 26,.t 28]) 24,OO 30 (.pick (.t 24) (.t 29) (.c (.bool false))),OM 31 30,OT 32 (.faddr 5 (.t 1)) 31,OT 33 (.load false 1 (.t 32)) 31,OT 34 (.bin .geq (.t 33) (IC 0)) 31,OO 35 (.pick (.t 31) (.t 34) (.c (.bool false))),OM 36 35,OT 37 (.faddr 5 (.t 1)) 36,OT 38 (.load false 1 (.t 37)) 36,OT 39 (.bin .leq (.t 38) (IC 1000)) 36,OO 40 (.pick (.t 36) (.t 39) (.c (.bool false))),OM 2 40] .ret)),false⟩
theorem e119 : T 119 = some c119 := by kernel_rfl
def c120 : Fun1 := ⟨[.tmp 4],SQ [OK 4 0] (.seq (SQ [OM 6 0,OE 7 6,OK 8 0] (.block 0 (.loop ⟨[0,1,7,8],[]⟩ (SQ [OB 9 .lss 8 7] (.seq (CX 9 0) (.seq (.block 1 (SQ [OM 10 8,OM 5 10] (SQ [OM 11 1,OM 12 0,OM 13 5,OI 14 2 12 13,OA 15 2 14,OO 16 (.call (.t 11) [.t 15])] (CS 16 (SQ [OM 17 5,OM 4 17] .ret))))) (.ops [OJ 18 .add 8 1,OM 8 18]))))))) (SQ [OK 4 (-1)] .ret)),false⟩
theorem e120 : T 120 = some c120 := by kernel_rfl
def c121 : Fun1 := ⟨[.tmp 2],SQ [OQ 2 false] (.seq (SQ [OM 5 0,OE 6 5,OK 7 0] (.block 0 (.loop ⟨[0,5,6,7],[]⟩ (SQ [OB 8 .lss 7 6] (.seq (CX 8 0) (.seq (.block 1 (SQ [OM 9 7,OI 10 1 5 7,OL 11 10,OM 3 9,OM 4 11] (SQ [OM 12 4,OC 13 164 [12],OH 14 13,OM 15 14,PU 16 0 15,PU 17 3 15,OU 18 (.sliceL 1 (.t 16) none (some (.t 17)) none) 15,PU 19 4 15,OU 20 (.call (.c (.fn 165 [])) [.t 18,.t 19]) 15,OO 21 (.pick (.t 15) (.c (.bool true)) (.t 20))] (CS 21 (SQ [OQ 2 false] .ret))))) (.ops [OJ 22 .add 7 1,OM 7 22]))))))) (SQ [OM 23 0,OE 24 23,OJ 25 .gtr 24 0,OM 2 25] .ret)),false⟩
theorem e121 : T 121 = some c121 := by kernel_rfl
def c122 : Fun1 := ⟨[.tmp 4],SQ [OG 2 0,OK 4 0] (.seq (.block 0 (SQ [OA 6 2 2,OC 7 60 [6],OJ 8 .neq 7 0,OM 5 8] (.cond (.t 5) (SQ [OK 4 1] .ret) (SQ [OM 10 1,OJ 11 .lss 10 0,OM 12 11,PU 13 1 12,OU 14 (.bin .gtr (.t 13) (IC 109951162)) 12,OO 15 (.pick (.t 12) (.c (.bool true)) (.t 14)),OM 9 15] (CS 9 (SQ [OK 4 2] .ret)))))) (SQ [OK 4 0] .ret)),false⟩
theorem e122 : T 122 = some c122 := by kernel_rfl
def c123 : Fun1 := ⟨[.cell 2 true 1],SQ [OG 1 0,OO 2 (.alloc [.nilFn])] (SQ [OO 3 (.mkfn 166 [.t 1]),OO 4 (.build [.nilFn] [(0,(1,.t 3))]),⟨none,.store 1 (.t 2) (.t 4),none⟩] .ret),false⟩
theorem e123 : T 123 = some c123 := by kernel_rfl
def c124 : Fun1 := ⟨[.tmp 4,.tmp 5],SQ [OG 2 0,OG 3 1,OK 4 0,OK 5 0] (.seq (.seq (.drawn [DF 6 0 2,DL 7 6,(OO 8 (.call (.t 7) [IC 1099511627776]),DS),DL 9 3,DD 10 .lss 8 9]) (CS 10 (SQ [OK 4 0,OK 5 15] .ret))) (SQ [OO 11 (.mkfn 169 [.t 2,.t 3]),OO 12 (.call (.c (.fn 168 [])) [IC 1099511627776,.t 11]),OM 4 12,OK 5 0] .ret)),false⟩
theorem e124 : T 124 = some c124 := by kernel_rfl
def c126 : Fun1 := ⟨[.tmp 4],SQ [OK 4 0] (SQ [OM 6 0,OM 7 1,OB 8 .quo 6 7,OM 5 8] (.seq (SQ [OM 9 0,OM 10 1,OB 11 .rem 9 10,OJ 12 .lss 11 0] (CS 12 (.ops [OM 13 5,OJ 14 .sub 13 1,OM 5 14]))) (SQ [OM 15 5,OM 4 15] .ret))),false⟩
theorem e126 : T 126 = some c126 := by kernel_rfl
def c127 : Fun1 := ⟨[.tmp 2],SQ [OQ 2 false] (.seq (SQ [OK 3 0] (.block 0 (.loop ⟨[0,3],[]⟩ (.seq (SQ [OM 4 3,OM 5 0,OE 6 5,OB 7 .lss 4 6] (CX 7 0)) (.seq (.block 1 (.seq (.drawn [DM 10 0,DM 11 3,(OI 12 1 10 11,DB),(OL 13 12,DB),(OC 14 172 [13],DB),(OH 15 14,DP),DM 16 15,(PU 17 0 16,DP),(PU 18 3 16,DP),(OU 19 (.sliceL 1 (.t 17) none (some (.t 18)) none) 16,DS),(PU 20 0 16,DP),(PU 21 3 16,DP),(OU 22 (.iaddrS 1 (.t 20) (.t 21)) 16,DS),(OU 23 (.load false 1 (.t 22)) 16,DS),(OU 24 (.call (.c (.fn 173 [])) [.t 19,.t 23]) 16,DB),(OO 25 (.pick (.t 16) (.c (.bool true)) (.t 24)),DP)]) (CS 25 (SQ [OQ 2 false] .ret)))) (.ops [OM 8 3,OJ 9 .add 8 1,OM 3 9])))))) (SQ [OM 26 0,OE 27 26,OJ 28 .geq 27 1,OM 2 28] .ret)),false⟩
theorem e127 : T 127 = some c127 := by kernel_rfl
def c128 : Fun1 := ⟨[.tmp 4],SQ [OQ 4 false] (SQ [OM 5 0,OJ 6 .geq 5 1000,OM 7 6,PT 8 0 7,OT 9 (.bin .leq (.t 8) (IC 100000)) 7,OO 10 (.pick (.t 7) (.t 9) (.c (.bool false))),OM 11 10,PT 12 1 11,OT 13 (.bin .geq (.t 12) (IC 1)) 11,OO 14 (.pick (.t 11) (.t 13) (.c (.bool false))),OM 15 14,PT 16 1 15,OT 17 (.bin .leq (.t 16) (IC 68719476736)) 15,OO 18 (.pick (.t 15) (.t 17) (.c (.bool false))),OM 4 18] .ret),false⟩
theorem e128 : T 128 = some c128 := by kernel_rfl
def c129 : Fun1 := ⟨[.tmp 2],SQ [OG 1 0,OQ 2 false] (SQ [OF 3 0 1,OL 4 3,OJ 5 .geq 4 0,OM 6 5,OT 7 (.faddr 0 (.t 1)) 6,OT 8 (.load false 1 (.t 7)) 6,OT 9 (.bin .leq (.t 8) (IC 10000)) 6,OO 10 (.pick (.t 6) (.t 9) (.c (.bool false))),OM 11 10,OT 12 (.faddr 1 (.t 1)) 11,OT 13 (.load false 1 (.t 12)) 11,OT 14 (.bin .geq (.t 13) (IC 0)) 11,OO 15 (.pick (.t 11) (.t 14) (.c (.bool false))),OM 16 15,OT 17 (.faddr 1 (.t 1)) 16,OT 18 (.load false 1 (.t 17)) 16,OT 19 (.bin .leq (.t 18) (IC 10000)) 16,OO 20 (.pick (.t 16) (.t 19) (.c (.bool false))),OM 2 20] .ret),false⟩
theorem e129 : T 129 = some c129 := by kernel_rfl
def c130 : Fun1 := ⟨[.tmp 2],SQ [OQ 2 false] (SQ [OM 3 0,OJ 4 .geq 3 0,OM 5 4,PT 6 0 5,OT 7 (.bin .leq (.t 6) (IC 68719476736)) 5,OO 8 (.pick (.t 5) (.t 7) (.c (.bool false))),OM 2 8] .ret),false⟩
theorem e130 : T 130 = some c130 := by kernel_rfl
def c131 : Fun1 := ⟨[.tmp 2],SQ [OG 1 0,OQ 2 false] (.seq (SQ [OK 3 0] (.block 0 (.loop ⟨[1,3],[]⟩ (.seq (SQ [OM 4 3,OF 5 3 1,OL 6 5,OE 7 6,OB 8 .lss 4 7] (CX 8 0)) (.seq (.block 1 (.seq (.drawn [(OF 11 3 1,DB),(OL 12 11,DB),DM 13 3,(OI 14 1 12 13,DB),(OL 15 14,DB),(OC 16 98 [15],DB),(OH 17 16,DP),DM 18 17,(PU 19 3 18,DP),(OU 20 (.bin .gtr (.t 19) (IC 0)) 18,DP),(PU 21 20 18,DP),(OT 22 (.faddr 3 (.t 1)) 21,DS),(OT 23 (.load false 1 (.t 22)) 21,DS),(PT 24 3 21,DP),(OT 25 (.iaddrS 1 (.t 23) (.t 24)) 21,DS),(OT 26 (.load false 1 (.t 25)) 21,DS),(OT 27 (.faddr 3 (.t 1)) 21,DS),(OT 28 (.load false 1 (.t 27)) 21,DS),(PT 29 3 21,DP),(OT 30 (.bin .sub (.t 29) (IC 1)) 21,DP),(OT 31 (.iaddrS 1 (.t 28) (.t 30)) 21,DS),(OT 32 (.load false 1 (.t 31)) 21,DS),(OT 33 (.bin .leq (.t 26) (.t 32)) 21,DP),(OU 34 (.pick (.t 21) (.t 33) (.c (.bool false))) 18,DP),(OO 35 (.pick (.t 18) (.c (.bool true)) (.t 34)),DP)]) (CS 35 (SQ [OQ 2 false] .ret)))) (.ops [OM 9 3,OJ 10 .add 9 1,OM 3 10])))))) (SQ [OF 36 0 1,OA 37 2 36,OC 38 129 [37],OM 39 38,OT 40 (.faddr 2 (.t 1)) 39,OT 41 (.load false 1 (.t 40)) 39,OT 42 (.call (.c (.fn 130 [])) [.t 41]) 39,OO 43 (.pick (.t 39) (.t 42) (.c (.bool false))),OM 44 43,OT 45 (.faddr 4 (.t 1)) 44,OT 46 (.load false 1 (.t 45)) 44,OT 47 (.bin .geq (.t 46) (IC 1)) 44,OO 48 (.pick (.t 44) (.t 47) (.c (.bool false))),OM 49 48,OT 50 (.faddr 4 (.t 1)) 49,OT 51 (.load false 1 (.t 50)) 49,OT 52 (.bin .leq (.t 51) (IC 1000000000)) 49,OO 53 (.pick (.t 49) (.t 52) (.c (.bool false))),OM 54 53,OT 55 (.faddr 5 (.t 1)) 54,OT 56 (.load false 1 (.t 55)) 54,OT 57 (.bin .geq (.t 56) (IC 0)) 54,OO 58 (.pick (.t 54) (.t 57) (.c (.bool false))),OM 59 58,OT 60 (.faddr 5 (.t 1)) 59,OT 61 (.load false 1 (.t 60)) 59,OT 62 (.faddr 6 (.t 1)) 59,OT 63 (.load false 1 (.t 62)) 59,OT 64 (.bin .leq (.t 61) (.t 63)) 59,OO 65 (.pick (.t 59) (.t 64) (.c (.bool false))),OM 66 65,OT 67 (.faddr 6 (.t 1)) 66,OT 68 (.load false 1 (.t 67)) 66,OT 69 (.faddr 4 (.t 1)) 66,OT 70 (.load false 1 (.t 69)) 66,OT 71 (.bin .leq (.t 68) (.t 70)) 66,OO 72 (.pick (.t 66) (.t 71) (.c (.bool false))),OM 2 72] .ret)),false⟩
theorem e131 : T 131 = some c131 := by kernel_rfl
def c132 : Fun1 := ⟨[.tmp 2],SQ [OG 1 0,OQ 2 false] (SQ [OF 3 0 1,OL 4 3,OJ 5 .geq 4 (-1),OM 6 5,OT 7 (.faddr 0 (.t 1)) 6,OT 8 (.load false 1 (.t 7)) 6,OT 9 (.bin .lss (.t 8) (IC 32)) 6,OO 10 (.pick (.t 6) (.t 9) (.c (.bool false))),OM 11 10,OT 12 (.faddr 1 (.t 1)) 11,OT 13 (.load false 1 (.t 12)) 11,OT 14 (.bin .geq (.t 13) (IC (-1))) 11,OO 15 (.pick (.t 11) (.t 14) (.c (.bool false))),OM 16 15,OT 17 (.faddr 1 (.t 1)) 16,OT 18 (.load false 1 (.t 17)) 16,OT 19 (.bin .lss (.t 18) (IC 32)) 16,OO 20 (.pick (.t 16) (.t 19) (.c (.bool false))),OM 21 20,OT 22 (.faddr 2 (.t 1)) 21,OT 23 (.load false 1 (.t 22)) 21,OT 24 (.bin .geq (.t 23) (IC (-1))) 21,OO 25 (.pick (.t 21) (.t 24) (.c (.bool false))),OM 26 25,OT 27 (.faddr 2 (.t 1)) 26,OT 28 (.load false 1 (.t 27)) 26,OT 29 (.bin .lss (.t 28) (IC 16)) 26,OO 30 (.pick (.t 26) (.t 29) (.c (.bool false))),OM 31 30,OT 32 (.faddr 3 (.t 1)) 31,OT 33 (.load false 1 (.t 32)) 31,OT 34 (.faddr 4 (.t 1)) 31,OT 35 (.load false 1 (.t 34)) 31,OT 36 (.call (.c (.fn 99 [])) [.t 33,.t 35]) 31,OO 37 (.pick (.t 31) (.t 36) (.c (.bool false))),OM 38 37,OT 39 (.faddr 5 (.t 1)) 38,OT 40 (.load false 1 (.t 39)) 38,OT 41 (.bin .geq (.t 40) (IC 0)) 38,OO 42 (.pick (.t 38) (.t 41) (.c (.bool false))),OM 43 42,OT 44 (.faddr 5 (.t 1)) 43,OT 45 (.load false 1 (.t 44)) 43,OT 46 (.bin .leq (.t 45) (IC 1000)) 43,OO 47 (.pick (.t 43) (.t 46) (.c (.bool false))),OM 2 47] .ret),false⟩
theorem e132 : T 132 = some c132 := by kernel_rfl
def c133 : Fun1 := ⟨[.tmp 2,.tmp 3],SQ [OG 1 0,OO 2 (.mov (.c (.str (.mk (.mk []))))),OK 3 0] (.seq (SQ [OA 8 12 1,OC 9 174 [8],OM 4 9] (SQ [OM 10 4,OJ 11 .neq 10 0] (CS 11 (SQ [OM 12 4,OO 2 (.mov (.c (.str (.mk (.mk []))))),OM 3 12] .ret)))) (.seq (SQ [OO 13 (.callK 175 1 []),OM 5 13] (.virt [(5,1)])) (SQ [OM 14 5,OO 15 (.build [.nilPtr,.nilPtr] [(0,(1,.t 14))]),OC 16 176 [15,1]] (SQ [OM 18 5,OC 19 177 [18],OM 17 19,OX 20 17 0,OX 21 17 1,OM 6 20,OM 7 21] (.seq (SQ [OM 22 7,OJ 23 .neq 22 0,OM 24 23,PU 25 6 24,OU 26 (.lenS (.t 25)) 24,OU 27 (.bin .add (.t 26) (IC 2)) 24,OU 28 (.bin .gtr (.t 27) (IC 127)) 24,OO 29 (.pick (.t 24) (.c (.bool true)) (.t 28))] (CS 29 (SQ [OO 2 (.mov (.c (.str (.mk (.mk []))))),OK 3 8] .ret))) (SQ [OM 30 6,OC 31 178 [30],OM 2 31,OK 3 0] .ret)))))),false⟩
theorem e133 : T 133 = some c133 := by kernel_rfl
def c142 : Fun1 := ⟨[.tmp 4],SQ [OQ 4 false] (SQ [OM 5 0,OJ 6 .geq 5 0,OM 7 6,PT 8 0 7,PT 9 1 7,OT 10 (.bin .leq (.t 8) (.t 9)) 7,OO 11 (.pick (.t 7) (.t 10) (.c (.bool false))),OM 4 11] .ret),false⟩
theorem e142 : T 142 = some c142 := by kernel_rfl
def c143 : Fun1 := ⟨[.tmp 4],SQ [OQ 4 false] (.seq (SQ [OM 5 0,ON 6 5,OF 7 1 6,OL 8 7,OJ 9 .eql 8 0,OM 10 9,PT 11 0 10,OT 12 (.nilChk (.t 11)) 10,OT 13 (.faddr 0 (.t 12)) 10,OT 14 (.load false 1 (.t 13)) 10,OT 15 (.len (.t 14)) 10,PT 16 1 10,OT 17 (.bin .add (.t 15) (.t 16)) 10,OT 18 (.bin .gtr (.t 17) (IC 524288)) 10,OO 19 (.pick (.t 10) (.t 18) (.c (.bool false)))] (CS 19 (.ops [OM 20 0,ON 21 20,OF 22 1 21,⟨none,.store 1 (.t 22) (IC 8),none⟩]))) (SQ [OM 23 0,ON 24 23,OF 25 1 24,OL 26 25,OJ 27 .eql 26 0,OM 4 27] .ret)),false⟩
theorem e143 : T 143 = some c143 := by kernel_rfl
def c144 : Fun1 := ⟨[],SQ [OM 7 1,OJ 8 .sub 7 1,OM 6 8] (.block 0 (.loop ⟨[0,2,6],[]⟩ (.seq (SQ [OM 9 6,OJ 10 .geq 9 0] (CX 10 0)) (.seq (.block 1 (.drawn [DM 13 0,DM 14 0,(ON 15 14,DB),(OF 16 0 15,DB),(OL 17 16,DB),DM 18 2,DM 19 6,DD 20 .shr 18 19,(OJ 21 .and 20 1,DP),(OO 22 (.convI .u8 (.t 21)),DP),(OO 23 (.blist 1 [.int .u8 0] 1 [(0,.t 22)]),DP),(OO 24 (.append 1 1 (.t 17) (.t 23)),DB),(ON 25 13,DB),(OF 26 0 25,DB),(⟨none,.store 1 (.t 26) (.t 24),none⟩,DB)])) (.ops [OM 11 6,OJ 12 .sub 11 1,OM 6 12]))))),false⟩
theorem e144 : T 144 = some c144 := by kernel_rfl
def c145 : Fun1 := ⟨[.tmp 2],SQ [OK 2 0] (.seq (SQ [OM 4 0,OJ 5 .lss 4 0] (CS 5 (SQ [OK 2 0] .ret))) (SQ [OK 3 1] (.seq (.block 0 (.loop ⟨[0,3],[]⟩ (.seq (SQ [OM 6 0,OJ 7 .geq 6 2] (CX 7 0)) (.block 1 (SQ [OM 8 0,OJ 9 .quo 8 2,OM 0 9] (.ops [OM 10 3,OJ 11 .add 10 1,OM 3 11])))))) (SQ [OM 12 3,OM 2 12] .ret)))),false⟩
theorem e145 : T 145 = some c145 := by kernel_rfl
def c146 : Fun1 := ⟨[.tmp 2],SQ [OO 2 (.mov (.c (.int .u16 0)))] (SQ [OM 3 0,OO 4 (.call (.c (.fn 187 [])) [.c (.int .u16 0),.t 3]),OM 2 4] .ret),false⟩
theorem e146 : T 146 = some c146 := by kernel_rfl
def c154 : Fun1 := ⟨[.tmp 4],SQ [OG 2 0,OG 3 1,OO 4 (.mov (.c .nilFn))] (SQ [OO 5 (.mkfn 191 [.t 2,.t 3]),OM 4 5] .ret),false⟩
theorem e154 : T 154 = some c154 := by kernel_rfl
def c155 : Fun1 := ⟨[.tmp 4],SQ [OK 4 0] (.seq (SQ [OM 6 0,OE 7 6,OK 8 0] (.block 0 (.loop ⟨[0,1,7,8],[]⟩ (SQ [OB 9 .lss 8 7] (.seq (CX 9 0) (.seq (.block 1 (SQ [OM 10 8,OM 5 10] (SQ [OM 11 1,OM 12 0,OM 13 5,OI 14 2 12 13,OA 15 2 14,OO 16 (.call (.t 11) [.t 15])] (CS 16 (SQ [OM 17 5,OM 4 17] .ret))))) (.ops [OJ 18 .add 8 1,OM 8 18]))))))) (SQ [OK 4 (-1)] .ret)),false⟩
theorem e155 : T 155 = some c155 := by kernel_rfl
def c156 : Fun1 := ⟨[.tmp 4],SQ [OK 4 0] (.seq (SQ [OM 6 0,OE 7 6,OK 8 0] (.block 0 (.loop ⟨[0,1,7,8],[]⟩ (SQ [OB 9 .lss 8 7] (.seq (CX 9 0) (.seq (.block 1 (SQ [OM 10 8,OM 5 10] (SQ [OM 11 1,OM 12 0,OM 13 5,OI 14 1 12 13,OL 15 14,OO 16 (.call (.t 11) [.t 15])] (CS 16 (SQ [OM 17 5,OM 4 17] .ret))))) (.ops [OJ 18 .add 8 1,OM 8 18]))))))) (SQ [OK 4 (-1)] .ret)),false⟩
theorem e156 : T 156 = some c156 := by kernel_rfl
def c157 : Fun1 := ⟨[.tmp 4],SQ [OK 4 0] (.seq (SQ [OM 6 0,OE 7 6,OK 8 0] (.block 0 (.loop ⟨[0,1,7,8],[]⟩ (SQ [OB 9 .lss 8 7] (.seq (CX 9 0) (.seq (.block 1 (SQ [OM 10 8,OM 5 10] (SQ [OM 11 1,OM 12 0,OM 13 5,OI 14 5 12 13,OA 15 5 14,OO 16 (.call (.t 11) [.t 15])] (CS 16 (SQ [OM 17 5,OM 4 17] .ret))))) (.ops [OJ 18 .add 8 1,OM 8 18]))))))) (SQ [OK 4 (-1)] .ret)),false⟩
theorem e157 : T 157 = some c157 := by kernel_rfl
def c158 : Fun1 := ⟨[.tmp 4],SQ [OK 4 0] (.seq (SQ [OM 6 0,OE 7 6,OK 8 0] (.block 0 (.loop ⟨[0,1,7,8],[]⟩ (SQ [OB 9 .lss 8 7] (.seq (CX 9 0) (.seq (.block 1 (SQ [OM 10 8,OM 5 10] (SQ [OM 11 1,OM 12 0,OM 13 5,OI 14 7 12 13,OA 15 7 14,OO 16 (.call (.t 11) [.t 15])] (CS 16 (SQ [OM 17 5,OM 4 17] .ret))))) (.ops [OJ 18 .add 8 1,OM 8 18]))))))) (SQ [OK 4 (-1)] .ret)),false⟩
theorem e158 : T 158 = some c158 := by kernel_rfl
def c159 : Fun1 := ⟨[.tmp 2],SQ [OQ 2 false] (SQ [OM 3 0,OJ 4 .geq 3 0,OM 5 4,PT 6 0 5,OT 7 (.bin .lss (.t 6) (IC 16)) 5,OO 8 (.pick (.t 5) (.t 7) (.c (.bool false))),OM 2 8] .ret),false⟩
theorem e159 : T 159 = some c159 := by kernel_rfl
def c160 : Fun1 := ⟨[.tmp 4],SQ [OK 4 0] (.seq (SQ [OM 6 0,OE 7 6,OK 8 0] (.block 0 (.loop ⟨[0,1,7,8],[]⟩ (SQ [OB 9 .lss 8 7] (.seq (CX 9 0) (.seq (.block 1 (SQ [OM 10 8,OM 5 10] (SQ [OM 11 1,OM 12 0,OM 13 5,OI 14 6 12 13,OA 15 6 14,OO 16 (.call (.t 11) [.t 15])] (CS 16 (SQ [OM 17 5,OM 4 17] .ret))))) (.ops [OJ 18 .add 8 1,OM 8 18]))))))) (SQ [OK 4 (-1)] .ret)),false⟩
theorem e160 : T 160 = some c160 := by kernel_rfl
def c161 : Fun1 := ⟨[.tmp 2],SQ [OQ 2 false] (SQ [OM 3 0,OJ 4 .eql 3 (-1),OM 5 4,PU 6 0 5,OU 7 (.call (.c (.fn 162 [])) [.t 6]) 5,OO 8 (.pick (.t 5) (.c (.bool true)) (.t 7)),OM 2 8] .ret),false⟩
theorem e161 : T 161 = some c161 := by kernel_rfl
def c162 : Fun1 := ⟨[.tmp 2],SQ [OQ 2 false] (SQ [OM 3 0,OJ 4 .geq 3 0,OM 5 4,PT 6 0 5,OT 7 (.bin .lss (.t 6) (IC 32)) 5,OO 8 (.pick (.t 5) (.t 7) (.c (.bool false))),OM 2 8] .ret),false⟩
theorem e162 : T 162 = some c162 := by kernel_rfl
def c163 : Fun1 := ⟨[.tmp 4],SQ [OQ 4 false] (SQ [OM 5 0,OJ 6 .geq 5 0,OM 7 6,PT 8 0 7,PT 9 1 7,OT 10 (.bin .leq (.t 8) (.t 9)) 7,OO 11 (.pick (.t 7) (.t 10) (.c (.bool false))),OM 12 11,PT 13 1 12,OT 14 (.bin .leq (.t 13) (IC 1099511627776)) 12,OO 15 (.pick (.t 12) (.t 14) (.c (.bool false))),OM 4 15] .ret),false⟩
theorem e163 : T 163 = some c163 := by kernel_rfl
def c164 : Fun1 := ⟨[.tmp 2],SQ [OQ 2 false] (SQ [OM 3 0,OJ 4 .geq 3 0,OM 5 4,PT 6 0 5,OT 7 (.bin .lss (.t 6) (IC 16)) 5,OO 8 (.pick (.t 5) (.t 7) (.c (.bool false))),OM 2 8] .ret),false⟩
theorem e164 : T 164 = some c164 := by kernel_rfl
def c165 : Fun1 := ⟨[.tmp 4],SQ [OQ 4 false] (SQ [OM 5 0,OM 6 1,OC 7 192 [5,6],OJ 8 .geq 7 0,OM 4 8] .ret),false⟩
theorem e165 : T 165 = some c165 := by kernel_rfl
def c166 : Fun1 := ⟨[.tmp 3],SQ [OK 3 0] (.seq (.drawn [DF 4 0 1,DL 5 4,DM 6 0,DD 7 .add 5 6,DM 8 0,DF 9 1 1,DL 10 9,DD 11 .mul 8 10,(OO 12 (.call (.c (.fn 167 [])) [.t 11,IC 1000000000]),DS),DD 13 .add 7 12,DM 3 13]) .ret),false⟩
theorem e166 : T 166 = some c166 := by kernel_rfl
def c167 : Fun1 := ⟨[.tmp 4],SQ [OK 4 0] (SQ [OM 6 0,OM 7 1,OB 8 .quo 6 7,OM 5 8] (.seq (SQ [OM 9 0,OM 10 1,OB 11 .rem 9 10,OJ 12 .lss 11 0] (CS 12 (.ops [OM 13 5,OJ 14 .sub 13 1,OM 5 14]))) (SQ [OM 15 5,OM 4 15] .ret))),false⟩
theorem e167 : T 167 = some c167 := by kernel_rfl
def c168 : Fun1 := ⟨[.tmp 4],SQ [OK 4 0] (SQ [OM 8 0,OK 5 0,OM 6 8] (.seq (.block 0 (.loop ⟨[1,5,6],[]⟩ (.seq (SQ [OM 9 5,OM 10 6,OB 11 .lss 9 10] (CX 11 0)) (.block 1 (SQ [OM 12 5,OM 13 6,OB 14 .add 12 13,OO 15 (.convI .u64 (.t 14)),OO 16 (.bin .shr (.t 15) (.c (.int .u64 1))),OO 17 (.convI .i64 (.t 16)),OM 7 17] (SQ [OM 18 1,OM 19 7,OO 20 (.call (.t 18) [.t 19]),OH 21 20] (.cond (.t 21) (.ops [OM 22 7,OJ 23 .add 22 1,OM 5 23]) (.ops [OM 24 7,OM 6 24])))))))) (SQ [OM 25 5,OM 4 25] .ret))),false⟩
theorem e168 : T 168 = some c168 := by kernel_rfl
def c169 : Fun1 := ⟨[.tmp 4],SQ [OQ 4 false] (.seq (.drawn [DF 5 0 1,DL 6 5,DM 7 0,(OO 8 (.call (.t 6) [.t 7]),DS),DL 9 2,DD 10 .geq 8 9,DM 4 10]) .ret),false⟩
theorem e169 : T 169 = some c169 := by kernel_rfl
def c172 : Fun1 := ⟨[.tmp 2],SQ [OQ 2 false] (SQ [OM 3 0,OJ 4 .geq 3 0,OM 5 4,PT 6 0 5,OT 7 (.bin .lss (.t 6) (IC 16)) 5,OO 8 (.pick (.t 5) (.t 7) (.c (.bool false))),OM 2 8] .ret),false⟩
theorem e172 : T 172 = some c172 := by kernel_rfl
def c173 : Fun1 := ⟨[.tmp 4],SQ [OQ 4 false] (.seq (SQ [OK 5 0] (.block 0 (.loop ⟨[0,1,5],[]⟩ (.seq (SQ [OM 6 5,OM 7 0,OE 8 7,OB 9 .lss 6 8] (CX 9 0)) (.seq (.block 1 (SQ [OM 12 0,OM 13 5,OI 14 1 12 13,OL 15 14,OM 16 1,OB 17 .eql 15 16] (CS 17 (SQ [OQ 4 true] .ret)))) (.ops [OM 10 5,OJ 11 .add 10 1,OM 5 11])))))) (SQ [OQ 4 false] .ret)),false⟩
theorem e173 : T 173 = some c173 := by kernel_rfl
def c174 : Fun1 := ⟨[.tmp 2],SQ [OG 1 0,OK 2 0] (SQ [OA 7 12 1,OC 8 195 [7],OM 6 8,OX 9 6 0,OX 10 6 1,OO 3 (.alloc [.int .i64 0,.int .i64 0,.int .i64 0,.int .i64 0,.int .i64 0,.int .i64 0,.int .i64 0,.int .i64 0,.int .i64 0,.int .i64 0,.int .i64 0,.str (.mk (.mk []))]),⟨none,.store 12 (.t 3) (.t 9),none⟩,OM 4 10] (SQ [OF 11 0 1,OL 12 11,OF 13 1 1,OL 14 13,OF 15 2 1,OL 16 15,OF 17 3 1,OL 18 17,OF 19 4 1,OL 20 19,OO 21 (.build [.int .i64 0,.int .i64 0,.int .i64 0,.int .i64 0,.int .i64 0,.int .i64 0,.int .i64 0,.int .i64 0,.int .i64 0,.int .i64 0,.int .i64 0,.str (.mk (.mk []))] [(0,(1,.t 12)),(1,(1,.t 14)),(2,(1,.t 16)),(3,(1,.t 18)),(4,(1,.t 20))]),OO 5 (.alloc [.int .i64 0,.int .i64 0,.int .i64 0,.int .i64 0,.int .i64 0,.int .i64 0,.int .i64 0,.int .i64 0,.int .i64 0,.int .i64 0,.int .i64 0,.str (.mk (.mk []))]),⟨none,.store 12 (.t 5) (.t 21),none⟩] (.seq (SQ [OM 22 4,OH 23 22,OM 24 23,OU 25 (.load true 12 (.t 3)) 24,OU 26 (.load true 12 (.t 5)) 24,OU 27 (.eqAgg true [.i,.i,.i,.i,.i,.i,.i,.i,.i,.i,.i,.s] (.t 25) (.t 26)) 24,OO 28 (.pick (.t 24) (.c (.bool true)) (.t 27)),OM 29 28,OU 30 (.faddr 1 (.t 1)) 29,OU 31 (.load false 1 (.t 30)) 29,OU 32 (.call (.c (.fn 196 [])) [.t 31,IC 31]) 29,OU 33 (.notB (.t 32)) 29,OO 34 (.pick (.t 29) (.c (.bool true)) (.t 33)),OM 35 34,OU 36 (.faddr 3 (.t 1)) 35,OU 37 (.load false 1 (.t 36)) 35,OU 38 (.call (.c (.fn 196 [])) [.t 37,IC 255]) 35,OU 39 (.notB (.t 38)) 35,OO 40 (.pick (.t 35) (.c (.bool true)) (.t 39)),OM 41 40,OU 42 (.faddr 4 (.t 1)) 41,OU 43 (.load false 1 (.t 42)) 41,OU 44 (.call (.c (.fn 196 [])) [.t 43,IC 255]) 41,OU 45 (.notB (.t 44)) 41,OO 46 (.pick (.t 41) (.c (.bool true)) (.t 45))] (CS 46 (SQ [OK 2 1] .ret))) (SQ [OK 2 0] .ret)))),false⟩
theorem e174 : T 174 = some c174 := by kernel_rfl
def c175 : Fun1 := ⟨[.tmp 0],SQ [OO 0 (.mov (.c .nilPtr))] (SQ [OO 1 (.build [.lst 0 [] true,.int .i64 0,.int .i64 0] []),OG 2 1,OM 0 2] .ret),false⟩
theorem e175 : T 175 = some c175 := by kernel_rfl
def c176 : Fun1 := ⟨[.tmp 4],SQ [OG 2 0,OQ 4 false] (SQ [OO 8 .mkmap,⟨none,.mupd .i (.t 8) (IC 1) (.c (.fn 197 [])),none⟩,⟨none,.mupd .i (.t 8) (IC 2) (.c (.fn 198 [])),none⟩,⟨none,.mupd .i (.t 8) (IC 3) (.c (.fn 199 [])),none⟩,⟨none,.mupd .i (.t 8) (IC 4) (.c (.fn 200 [])),none⟩,OM 9 8,OM 5 9] (.seq (.drawn [DA 10 2 2,DM 11 1,DN 12 11,DF 13 0 12,(OO 14 (.call (.c (.fn 201 [])) [.t 10,IC 3,.t 13]),DB)]) (.seq (.drawn [DA 15 2 2,DM 16 1,DN 17 16,DF 18 1 17,(OO 19 (.call (.c (.fn 201 [])) [.t 15,IC 5,.t 18]),DB)]) (.seq (.drawn [DA 20 2 2,DM 21 1,DN 22 21,DF 23 2 22,(OC 24 202 [20,23],DB)]) (.seq (.drawn [DA 25 2 2,DM 26 1,DN 27 26,DF 28 3 27,(OO 29 (.call (.c (.fn 201 [])) [.t 25,IC 8,.t 28]),DB)]) (.seq (.drawn [DA 30 2 2,DM 31 1,DN 32 31,DF 33 4 32,(OO 34 (.call (.c (.fn 201 [])) [.t 30,IC 8,.t 33]),DB)]) (SQ [OM 36 5,OM 37 1,ON 38 37,OF 39 0 38,OL 40 39,OO 41 (.mlook .i true .nilFn (.t 36) (.t 40)),OM 35 41,OX 42 35 0,OX 43 35 1,OM 6 42,OM 7 43] (.seq (SQ [OM 44 7] (CS 44 (.ops [OM 45 6,OA 46 2 2,OM 47 1,OO 48 (.call (.t 45) [.t 46,.t 47])]))) (SQ [OM 49 7,OM 4 49] .ret))))))))),false⟩
theorem e176 : T 176 = some c176 := by kernel_rfl
def c177 : Fun1 := ⟨[.tmp 2,.tmp 3],SQ [OO 2 (.mov (.c (.str (.mk (.mk []))))),OK 3 0] (.seq (SQ [OM 4 0,ON 5 4,OF 6 2 5,OL 7 6,OJ 8 .neq 7 0] (CS 8 (.seq (.drawn [DM 9 0,(ON 10 9,DB),(OF 11 2 10,DB),(OL 12 11,DB),(OO 2 (.mov (.c (.str (.mk (.mk []))))),DP),DM 3 12]) .ret))) (SQ [OM 13 0,ON 14 13,OF 15 0 14,OL 16 15,OO 17 (.convBS (.t 16)),OM 2 17,OK 3 0] .ret)),false⟩
theorem e177 : T 177 = some c177 := by kernel_rfl
def c178 : Fun1 := ⟨[.tmp 2],SQ [OO 2 (.mov (.c (.str (.mk (.mk [])))))] (SQ [OM 4 0,OC 5 203 [4],OM 3 5] (SQ [OM 6 0,OM 7 3,OO 8 (.bin .shr (.t 7) (.c (.int .u64 8))),OO 9 (.convI .u8 (.t 8)),OM 10 3,OO 11 (.convI .u8 (.t 10)),OO 12 (.blist 1 [.int .u8 0] 2 [(0,.t 9),(1,.t 11)]),OO 13 (.convBS (.t 12)),OB 14 .add 6 13,OM 2 14] .ret)),false⟩
theorem e178 : T 178 = some c178 := by kernel_rfl
def c187 : Fun1 := ⟨[.tmp 4],SQ [OO 4 (.mov (.c (.int .u16 0)))] (.seq (SQ [OK 5 0] (.block 0 (.loop ⟨[0,1,5],[]⟩ (.seq (SQ [OM 7 5,OM 8 1,OO 9 (.lenS (.t 8)),OB 10 .lss 7 9] (CX 10 0)) (.seq (.block 1 (SQ [OM 13 0,OM 14 1,OM 15 5,OO 16 (.indexS (.t 14) (.t 15)),OO 17 (.convI .u16 (.t 16)),OO 18 (.bin .shl (.t 17) (.c (.int .u64 8))),OB 19 .xor 13 18,OM 0 19] (SQ [OK 6 0] (.block 2 (.loop ⟨[0,1,5,6],[]⟩ (.seq (SQ [OM 20 6,OJ 21 .lss 20 8] (CX 21 2)) (.seq (.block 3 (.ops [OM 24 0,OC 25 212 [24],OM 0 25])) (.ops [OM 22 6,OJ 23 .add 22 1,OM 6 23])))))))) (.ops [OM 11 5,OJ 12 .add 11 1,OM 5 12])))))) (SQ [OM 26 0,OM 4 26] .ret)),false⟩
theorem e187 : T 187 = some c187 := by kernel_rfl
def c191 : Fun1 := ⟨[],SQ [OL 5 1,OE 6 5,OK 7 0] (.block 0 (.loop ⟨[0,1,2,6,7],[]⟩ (SQ [OB 8 .lss 7 6] (.seq (CX 8 0) (.seq (.block 1 (SQ [OM 9 7,OM 4 9] (.seq (.drawn [DM 10 0,DL 11 1,DL 12 2,DM 13 4,DD 14 .add 12 13,DL 15 1,DE 16 15,DD 17 .rem 14 16,(OI 18 1 11 17,DB),(OL 19 18,DB),(OO 20 (.call (.t 10) [.t 19]),DB),(OH 21 20,DP)]) (CS 21 .ret)))) (.ops [OJ 22 .add 7 1,OM 7 22])))))),false⟩
theorem e191 : T 191 = some c191 := by kernel_rfl
def c192 : Fun1 := ⟨[.tmp 4],SQ [OK 4 0] (.seq (SQ [OM 6 0,OE 7 6,OK 8 0] (.block 0 (.loop ⟨[0,1,7,8],[]⟩ (SQ [OB 9 .lss 8 7] (.seq (CX 9 0) (.seq (.block 1 (SQ [OM 10 8,OM 5 10] (SQ [OM 11 1,OM 12 0,OM 13 5,OI 14 1 12 13,OL 15 14,OB 16 .eql 11 15] (CS 16 (SQ [OM 17 5,OM 4 17] .ret))))) (.ops [OJ 18 .add 8 1,OM 8 18]))))))) (SQ [OK 4 (-1)] .ret)),false⟩
theorem e192 : T 192 = some c192 := by kernel_rfl
def c195 : Fun1 := ⟨[.cell 2 true 12,.tmp 3],SQ [OG 1 0,OO 2 (.alloc [.int .i64 0,.int .i64 0,.int .i64 0,.int .i64 0,.int .i64 0,.int .i64 0,.int .i64 0,.int .i64 0,.int .i64 0,.int .i64 0,.int .i64 0,.str (.mk (.mk []))]),OQ 3 false] (SQ [OA 6 12 1,OO 4 (.alloc [.int .i64 0,.int .i64 0,.int .i64 0,.int .i64 0,.int .i64 0,.int .i64 0,.int .i64 0,.int .i64 0,.int .i64 0,.int .i64 0,.int .i64 0,.str (.mk (.mk []))]),⟨none,.store 12 (.t 4) (.t 6),none⟩,OQ 5 false] (.seq (SQ [OF 7 0 1,OL 8 7] (.block 0 (SQ [OJ 10 .eql 8 1,OM 9 10] (.cond (.t 9) (SQ [OA 11 12 1,OC 12 213 [11],OM 13 12,OT 14 (.faddr 5 (.t 1)) 13,OT 15 (.load false 1 (.t 14)) 13,OT 16 (.call (.c (.fn 196 [])) [.t 15,IC 255]) 13,OO 17 (.pick (.t 13) (.t 16) (.c (.bool false))),OM 18 17,OT 19 (.faddr 6 (.t 1)) 18,OT 20 (.load false 1 (.t 19)) 18,OT 21 (.call (.c (.fn 196 [])) [.t 20,IC 65535]) 18,OO 22 (.pick (.t 18) (.t 21) (.c (.bool false))),OM 5 22] (.ops [OF 23 5 4,⟨none,.store 1 (.t 23) (IC 0),none⟩,OF 24 6 4,⟨none,.store 1 (.t 24) (IC 0),none⟩,OF 25 11 4,⟨none,.store 1 (.t 25) (.c (.str (.mk (.mk [])))),none⟩])) (SQ [OJ 27 .eql 8 2,OM 26 27] (.cond (.t 26) (SQ [OA 28 12 1,OC 29 213 [28],OM 30 29,OT 31 (.faddr 7 (.t 1)) 30,OT 32 (.load false 1 (.t 31)) 30,OT 33 (.call (.c (.fn 214 [])) [.t 32]) 30,OO 34 (.pick (.t 30) (.t 33) (.c (.bool false))),OM 5 34] (.ops [OF 35 7 4,⟨none,.store 1 (.t 35) (IC 0),none⟩])) (SQ [OJ 37 .eql 8 3,OM 36 37] (.cond (.t 36) (SQ [OF 38 2 1,OL 39 38,OJ 40 .eql 39 (-1),OM 41 40,OT 42 (.faddr 8 (.t 1)) 41,OT 43 (.load false 1 (.t 42)) 41,OT 44 (.call (.c (.fn 196 [])) [.t 43,IC 109951162]) 41,OO 45 (.pick (.t 41) (.t 44) (.c (.bool false))),OM 46 45,OT 47 (.faddr 9 (.t 1)) 46,OT 48 (.load false 1 (.t 47)) 46,OT 49 (.call (.c (.fn 196 [])) [.t 48,IC 65535]) 46,OO 50 (.pick (.t 46) (.t 49) (.c (.bool false))),OM 51 50,OT 52 (.faddr 10 (.t 1)) 51,OT 53 (.load false 1 (.t 52)) 51,OT 54 (.call (.c (.fn 196 [])) [.t 53,IC 65535]) 51,OO 55 (.pick (.t 51) (.t 54) (.c (.bool false))),OM 5 55] (.ops [OF 56 8 4,⟨none,.store 1 (.t 56) (IC 0),none⟩,OF 57 9 4,⟨none,.store 1 (.t 57) (IC 0),none⟩,OF 58 10 4,⟨none,.store 1 (.t 58) (IC 0),none⟩,OF 59 11 4,⟨none,.store 1 (.t 59) (.c (.str (.mk (.mk [])))),none⟩])) (SQ [OJ 61 .eql 8 4,OM 60 61] (CS 60 (SQ [OF 62 2 1,OL 63 62,OJ 64 .eql 63 (-1),OM 65 64,OU 66 (.load true 12 (.t 1)) 65,OU 67 (.call (.c (.fn 213 [])) [.t 66]) 65,OO 68 (.pick (.t 65) (.c (.bool true)) (.t 67)),OM 5 68] (.ops [OF 69 11 4,⟨none,.store 1 (.t 69) (.c (.str (.mk (.mk [])))),none⟩])))))))))))) (SQ [OA 70 12 4,OM 71 5,⟨none,.store 12 (.t 2) (.t 70),none⟩,OM 3 71] .ret))),false⟩
theorem e195 : T 195 = some c195 := by kernel_rfl
def c196 : Fun1 := ⟨[.tmp 4],SQ [OQ 4 false] (SQ [OM 5 0,OJ 6 .geq 5 0,OM 7 6,PT 8 0 7,PT 9 1 7,OT 10 (.bin .leq (.t 8) (.t 9)) 7,OO 11 (.pick (.t 7) (.t 10) (.c (.bool false))),OM 4 11] .ret),false⟩
theorem e196 : T 196 = some c196 := by kernel_rfl
def c197 : Fun1 := ⟨[],SQ [OG 2 0] (.seq (.drawn [DA 4 2 2,DM 5 1,DN 6 5,DF 7 5 6,(OO 8 (.call (.c (.fn 201 [])) [.t 4,IC 8,.t 7]),DB)]) (.seq (.drawn [DA 9 2 2,DM 10 1,DN 11 10,DF 12 6 11,(OO 13 (.call (.c (.fn 201 [])) [.t 9,IC 16,.t 12]),DB)]) (.drawn [DA 14 2 2,DM 15 1,DN 16 15,DF 17 11 16,(OC 18 215 [14,17],DB)]))),false⟩
theorem e197 : T 197 = some c197 := by kernel_rfl
def c198 : Fun1 := ⟨[],SQ [OG 2 0] (SQ [OF 4 0 2,OL 5 4,OO 6 (.isNil .p true (.t 5))] (.cond (.t 6) (.drawn [DF 7 0 2,DL 8 7,DM 9 1,DN 10 9,DF 11 7 10,DL 12 11,(OO 13 (.call (.c (.fn 216 [])) [.t 8,IC 16,.t 12]),DB)]) (.ops [OM 14 1,OF 15 1 2,OL 16 15,OO 17 (.call (.c (.fn 217 [])) [.t 16,IC 16]),ON 18 14,OF 19 7 18,⟨none,.store 1 (.t 19) (.t 17),none⟩]))),false⟩
theorem e198 : T 198 = some c198 := by kernel_rfl
def c199 : Fun1 := ⟨[],SQ [OG 2 0] (.seq (.drawn [DA 4 2 2,DM 5 1,DN 6 5,DF 7 8 6,(OO 8 (.call (.c (.fn 201 [])) [.t 4,IC 27,.t 7]),DB)]) (.seq (.drawn [DA 9 2 2,DM 10 1,DN 11 10,DF 12 9 11,(OO 13 (.call (.c (.fn 201 [])) [.t 9,IC 16,.t 12]),DB)]) (.seq (.drawn [DA 14 2 2,DM 15 1,DN 16 15,DF 17 10 16,(OO 18 (.call (.c (.fn 201 [])) [.t 14,IC 16,.t 17]),DB)]) (.drawn [DA 19 2 2,DM 20 1,DN 21 20,DF 22 11 21,(OC 23 215 [19,22],DB)])))),false⟩
theorem e199 : T 199 = some c199 := by kernel_rfl
def c200 : Fun1 := ⟨[],SQ [OG 2 0] (.drawn [DA 4 2 2,DM 5 1,DN 6 5,DF 7 11 6,(OC 8 215 [4,7],DB)]),false⟩
theorem e200 : T 200 = some c200 := by kernel_rfl
def c201 : Fun1 := ⟨[],SQ [OG 3 0] (SQ [OF 6 0 3,OL 7 6,OO 8 (.isNil .p true (.t 7))] (.cond (.t 8) (.drawn [DF 9 0 3,DL 10 9,DM 11 1,DM 12 2,DN 13 12,DL 14 13,(OC 15 218 [10,11,14],DB)]) (.ops [OM 16 2,OF 17 1 3,OL 18 17,OM 19 1,OC 20 219 [18,19],ON 21 16,⟨none,.store 1 (.t 21) (.t 20),none⟩]))),false⟩
theorem e201 : T 201 = some c201 := by kernel_rfl
def c202 : Fun1 := ⟨[],SQ [OG 2 0] (SQ [OM 5 1,ON 6 5,OL 7 6,OJ 8 .geq 7 0,OM 4 8] (.seq (SQ [OF 9 0 2,OL 10 9,OO 11 (.isNil .p true (.t 10))] (.cond (.t 11) (.ops [OF 12 0 2,OL 13 12,OM 14 4,OC 15 220 [13,14]]) (.ops [OF 16 1 2,OL 17 16,OC 18 221 [17],OM 4 18]))) (SQ [OM 19 4] (.cond (.t 19) (.ops [OA 20 2 2,OM 21 1,OO 22 (.call (.c (.fn 201 [])) [.t 20,IC 5,.t 21])]) (.ops [OM 23 1,ON 24 23,⟨none,.store 1 (.t 24) (IC (-1)),none⟩]))))),false⟩
theorem e202 : T 202 = some c202 := by kernel_rfl
def c203 : Fun1 := ⟨[.tmp 2],SQ [OO 2 (.mov (.c (.int .u16 0)))] (SQ [OM 3 0,OO 4 (.call (.c (.fn 222 [])) [.c (.int .u16 0),.t 3]),OM 2 4] .ret),false⟩
theorem e203 : T 203 = some c203 := by kernel_rfl
def c212 : Fun1 := ⟨[.tmp 2],SQ [OO 2 (.mov (.c (.int .u16 0)))] (.seq (SQ [OM 3 0,OO 4 (.bin .geq (.t 3) (.c (.int .u16 32768)))] (CS 4 (SQ [OM 5 0,OO 6 (.bin .shl (.t 5) (.c (.int .u64 1))),OO 7 (.bin .xor (.t 6) (.c (.int .u16 4129))),OM 2 7] .ret))) (SQ [OM 8 0,OO 9 (.bin .shl (.t 8) (.c (.int .u64 1))),OM 2 9] .ret)),false⟩
theorem e212 : T 212 = some c212 := by kernel_rfl
def c213 : Fun1 := ⟨[.tmp 2],SQ [OG 1 0,OQ 2 false] (SQ [OF 3 2 1,OL 4 3,OO 5 (.call (.c (.fn 196 [])) [.t 4,IC 31]),OM 6 5,OT 7 (.faddr 2 (.t 1)) 6,OT 8 (.load false 1 (.t 7)) 6,OT 9 (.faddr 1 (.t 1)) 6,OT 10 (.load false 1 (.t 9)) 6,OT 11 (.bin .neq (.t 8) (.t 10)) 6,OO 12 (.pick (.t 6) (.t 11) (.c (.bool false))),OM 2 12] .ret),false⟩
theorem e213 : T 213 = some c213 := by kernel_rfl
def c214 : Fun1 := ⟨[.tmp 2],SQ [OQ 2 false] (SQ [OM 3 0,OJ 4 .geq 3 (-32768),OM 5 4,PT 6 0 5,OT 7 (.bin .leq (.t 6) (IC 32767)) 5,OO 8 (.pick (.t 5) (.t 7) (.c (.bool false))),OM 2 8] .ret),false⟩
theorem e214 : T 214 = some c214 := by kernel_rfl
def c215 : Fun1 := ⟨[],SQ [OG 2 0] (SQ [OF 4 0 2,OL 5 4,OO 6 (.isNil .p true (.t 5))] (.cond (.t 6) (.drawn [DF 7 0 2,DL 8 7,DM 9 1,DN 10 9,DL 11 10,(OO 12 (.call (.c (.fn 229 [])) [.t 8,IC 127,.t 11]),DB)]) (.ops [OM 13 1,OF 14 1 2,OL 15 14,OO 16 (.call (.c (.fn 230 [])) [.t 15,IC 127]),ON 17 13,⟨none,.store 1 (.t 17) (.t 16),none⟩]))),false⟩
theorem e215 : T 215 = some c215 := by kernel_rfl
def c216 : Fun1 := ⟨[],SQ [OM 7 1,OJ 8 .geq 7 2,OM 9 8,PT 10 1 9,OT 11 (.bin .leq (.t 10) (IC 63)) 9,OO 12 (.pick (.t 9) (.t 11) (.c (.bool false))),OM 6 12] (.ops [OM 13 0,OM 14 6,OM 15 6,OM 16 15,PT 17 2 16,PT 18 1 16,OT 19 (.maxI [.t 18,IC 1]) 16,OT 20 (.bin .sub (.t 19) (IC 1)) 16,OT 21 (.bin .shl (IC (-1)) (.t 20)) 16,OT 22 (.bin .geq (.t 17) (.t 21)) 16,OO 23 (.pick (.t 16) (.t 22) (.c (.bool false))),OM 24 23,PT 25 2 24,PT 26 1 24,OT 27 (.maxI [.t 26,IC 1]) 24,OT 28 (.bin .sub (.t 27) (IC 1)) 24,OT 29 (.bin .shl (IC 1) (.t 28)) 24,OT 30 (.bin .sub (.t 29) (IC 1)) 24,OT 31 (.bin .leq (.t 25) (.t 30)) 24,OO 32 (.pick (.t 24) (.t 31) (.c (.bool false))),OM 33 1,OM 34 2,OC 35 231 [13,14,32,33,34]]),false⟩
theorem e216 : T 216 = some c216 := by kernel_rfl
def c218 : Fun1 := ⟨[],SQ [OM 7 1,OJ 8 .geq 7 1,OM 9 8,PT 10 1 9,OT 11 (.bin .leq (.t 10) (IC 63)) 9,OO 12 (.pick (.t 9) (.t 11) (.c (.bool false))),OM 6 12] (.ops [OM 13 0,OM 14 6,OM 15 6,OM 16 15,PT 17 2 16,OT 18 (.bin .geq (.t 17) (IC 0)) 16,OO 19 (.pick (.t 16) (.t 18) (.c (.bool false))),OM 20 19,PT 21 2 20,OT 22 (.convI .u64 (.t 21)) 20,OT 23 (.call (.c (.fn 233 [])) [.t 22]) 20,PT 24 1 20,OT 25 (.bin .leq (.t 23) (.t 24)) 20,OO 26 (.pick (.t 20) (.t 25) (.c (.bool false))),OM 27 1,OM 28 2,OC 29 231 [13,14,26,27,28]]),false⟩
theorem e218 : T 218 = some c218 := by kernel_rfl
def c220 : Fun1 := ⟨[],SQ [OK 4 0] (.seq (SQ [OM 5 1] (CS 5 (.ops [OK 4 1]))) (.ops [OM 6 0,OM 7 4,OO 8 (.call (.c (.fn 231 [])) [.t 6,.c (.bool true),.c (.bool true),IC 1,.t 7])])),false⟩
theorem e220 : T 220 = some c220 := by kernel_rfl
def c222 : Fun1 := ⟨[.tmp 4],SQ [OO 4 (.mov (.c (.int .u16 0)))] (SQ [OC 7 234 [],OO 5 (.alloc [.int .u16 0,.int .u16 0,.int .u16 0,.int .u16 0,.int .u16 0,.int .u16 0,.int .u16 0,.int .u16 0,.int .u16 0,.int .u16 0,.int .u16 0,.int .u16 0,.int .u16 0,.int .u16 0,.int .u16 0,.int .u16 0]),⟨none,.store 16 (.t 5) (.t 7),none⟩] (.seq (SQ [OM 8 1,OO 9 (.lenS (.t 8)),OK 10 0] (.block 0 (.loop ⟨[0,1,5,9,10],[]⟩ (SQ [OB 11 .lss 10 9] (.seq (CX 11 0) (.seq (.block 1 (SQ [OM 12 10,OM 6 12] (SQ [OM 13 0,OO 14 (.bin .shl (.t 13) (.c (.int .u64 4))),OM 15 0,OO 16 (.bin .shr (.t 15) (.c (.int .u64 12))),OM 17 1,OM 18 6,OO 19 (.indexS (.t 17) (.t 18)),OO 20 (.bin .shr (.t 19) (.c (.int .u64 4))),OO 21 (.convI .u16 (.t 20)),OB 22 .xor 16 21,OO 23 (.iaddrA 16 1 (.t 5) (.t 22)),OL 24 23,OB 25 .xor 14 24,OM 0 25] (.ops [OM 26 0,OO 27 (.bin .shl (.t 26) (.c (.int .u64 4))),OM 28 0,OO 29 (.bin .shr (.t 28) (.c (.int .u64 12))),OM 30 1,OM 31 6,OO 32 (.indexS (.t 30) (.t 31)),OO 33 (.bin .and (.t 32) (.c (.int .u8 15))),OO 34 (.convI .u16 (.t 33)),OB 35 .xor 29 34,OO 36 (.iaddrA 16 1 (.t 5) (.t 35)),OL 37 36,OB 38 .xor 27 37,OM 0 38])))) (.ops [OJ 39 .add 10 1,OM 10 39]))))))) (SQ [OM 40 0,OM 4 40] .ret))),false⟩
theorem e222 : T 222 = some c222 := by kernel_rfl
def c229 : Fun1 := ⟨[],.block 0 (SQ [OM 27 0,ON 28 27,OF 29 2 28,OL 30 29,OJ 31 .neq 30 0,OM 26 31] (.cond (.t 26) .skip (SQ [OM 33 1,OC 34 239 [33],OH 35 34,OM 32 35] (.cond (.t 32) (.ops [OM 36 0,ON 37 36,OF 38 2 37,⟨none,.store 1 (.t 38) (IC 1),none⟩]) (.seq (.drawn [DM 40 2,(OO 41 (.lenS (.t 40)),DP),DM 42 1,DD 43 .gtr 41 42,DM 44 43,(PU 45 0 44,DP),(OU 46 (.nilChk (.t 45)) 44,DS),(OU 47 (.faddr 1 (.t 46)) 44,DS),(OU 48 (.load false 1 (.t 47)) 44,DS),(PU 49 1 44,DP),(OU 50 (.call (.c (.fn 240 [])) [.t 49]) 44,DS),(OU 51 (.bin .add (.t 48) (.t 50)) 44,DP),(PU 52 2 44,DP),(OU 53 (.lenS (.t 52)) 44,DP),(OU 54 (.bin .mul (IC 8) (.t 53)) 44,DP),(OU 55 (.bin .add (.t 51) (.t 54)) 44,DP),(OU 56 (.bin .gtr (.t 55) (IC 524288)) 44,DP),(OO 57 (.pick (.t 44) (.c (.bool true)) (.t 56)),DP),DM 39 57]) (.cond (.t 39) (.ops [OM 58 0,ON 59 58,OF 60 2 59,⟨none,.store 1 (.t 60) (IC 8),none⟩]) (SQ [OM 7 0,OM 8 1,OC 9 240 [8],OM 10 2,OO 11 (.lenS (.t 10)),OO 12 (.convI .u64 (.t 11)),OC 13 241 [7,9,12]] (SQ [OM 14 2,OO 15 (.lenS (.t 14)),OK 16 0] (.block 1 (.loop ⟨[0,2,15,16],[]⟩ (SQ [OB 17 .lss 16 15] (.seq (CX 17 1) (.seq (.block 2 (SQ [OM 18 16,OM 6 18] (.ops [OM 19 0,OM 20 2,OM 21 6,OO 22 (.indexS (.t 20) (.t 21)),OO 23 (.convI .u64 (.t 22)),OO 24 (.call (.c (.fn 241 [])) [.t 19,IC 8,.t 23])]))) (.ops [OJ 25 .add 16 1,OM 16 25])))))))))))))),false⟩
theorem e229 : T 229 = some c229 := by kernel_rfl
def c231 : Fun1 := ⟨[],.block 0 (SQ [OM 16 0,ON 17 16,OF 18 2 17,OL 19 18,OJ 20 .neq 19 0,OM 15 20] (.cond (.t 15) .skip (SQ [OM 22 1,OH 23 22,OM 21 23] (.cond (.t 21) (.ops [OM 24 0,ON 25 24,OF 26 2 25,⟨none,.store 1 (.t 26) (IC 1),none⟩]) (SQ [OM 28 2,OH 29 28,OM 27 29] (.cond (.t 27) (.ops [OM 30 0,ON 31 30,OF 32 2 31,⟨none,.store 1 (.t 32) (IC 2),none⟩]) (SQ [OM 34 0,ON 35 34,OF 36 1 35,OL 37 36,OM 38 3,OB 39 .add 37 38,OJ 40 .gtr 39 524288,OM 33 40] (.cond (.t 33) (.ops [OM 41 0,ON 42 41,OF 43 2 42,⟨none,.store 1 (.t 43) (IC 8),none⟩]) (.ops [OM 10 0,OM 11 3,OM 12 4,OO 13 (.convI .u64 (.t 12)),OC 14 241 [10,11,13]]))))))))),false⟩
theorem e231 : T 231 = some c231 := by kernel_rfl
def c233 : Fun1 := ⟨[.tmp 2],SQ [OK 2 0] (.seq (.cond (.c (.bool false)) (SQ [OM 3 0,OO 4 (.convI .u32 (.t 3)),OC 5 245 [4],OM 2 5] .ret) .skip) (SQ [OM 6 0,OC 7 246 [6],OM 2 7] .ret)),false⟩
theorem e233 : T 233 = some c233 := by kernel_rfl
def c234 : Fun1 := ⟨[.cell 0 true 16],SQ [OO 0 (.alloc [.int .u16 0,.int .u16 0,.int .u16 0,.int .u16 0,.int .u16 0,.int .u16 0,.int .u16 0,.int .u16 0,.int .u16 0,.int .u16 0,.int .u16 0,.int .u16 0,.int .u16 0,.int .u16 0,.int .u16 0,.int .u16 0])] (SQ [OO 1 (.alloc [.int .u16 0,.int .u16 0,.int .u16 0,.int .u16 0,.int .u16 0,.int .u16 0,.int .u16 0,.int .u16 0,.int .u16 0,.int .u16 0,.int .u16 0,.int .u16 0,.int .u16 0,.int .u16 0,.int .u16 0,.int .u16 0])] (SQ [OO 4 (.mkfn 247 [.t 1]),OM 2 4] (.seq (SQ [OK 5 0] (.block 0 (.loop ⟨[0,1,2,5],[]⟩ (SQ [OJ 6 .lss 5 16] (.seq (CX 6 0) (.seq (.block 1 (SQ [OM 7 5,OM 3 7] (.ops [OM 8 2,OM 9 3,OO 10 (.call (.t 8) [.t 9])]))) (.ops [OJ 11 .add 5 1,OM 5 11]))))))) (SQ [OA 12 16 1,⟨none,.store 16 (.t 0) (.t 12),none⟩] .ret)))),false⟩
theorem e234 : T 234 = some c234 := by kernel_rfl
def c239 : Fun1 := ⟨[.tmp 2],SQ [OQ 2 false] (SQ [OM 3 0,OJ 4 .geq 3 1,OM 5 4,PT 6 0 5,OT 7 (.bin .leq (.t 6) (IC 4095)) 5,OO 8 (.pick (.t 5) (.t 7) (.c (.bool false))),OM 2 8] .ret),false⟩
theorem e239 : T 239 = some c239 := by kernel_rfl
def c240 : Fun1 := ⟨[.tmp 2],SQ [OK 2 0] (.seq (SQ [OM 3 0,OJ 4 .lss 3 0] (CS 4 (SQ [OK 2 0] .ret))) (SQ [OM 5 0,OO 6 (.convI .u64 (.t 5)),OC 7 233 [6],OO 8 (.maxI [IC 1,.t 7]),OM 2 8] .ret)),false⟩
theorem e240 : T 240 = some c240 := by kernel_rfl
def c241 : Fun1 := ⟨[],SQ [OM 7 1,OJ 8 .sub 7 1,OM 6 8] (.block 0 (.loop ⟨[0,2,6],[]⟩ (.seq (SQ [OM 9 6,OJ 10 .geq 9 0] (CX 10 0)) (.seq (.block 1 (.seq (SQ [OM 13 0,ON 14 13,OF 15 1 14,OL 16 15,OJ 17 .rem 16 8,OJ 18 .eql 17 0] (CS 18 (.ops [OM 19 0,OM 20 0,ON 21 20,OF 22 0 21,OL 23 22,OO 24 (.blist 1 [.int .u8 0] 1 [(0,.c (.int .u8 0))]),OO 25 (.append 1 1 (.t 23) (.t 24)),ON 26 19,OF 27 0 26,⟨none,.store 1 (.t 27) (.t 25),none⟩]))) (.seq (.drawn [DM 28 0,DN 29 28,DF 30 0 29,DL 31 30,DM 32 0,DN 33 32,DF 34 1 33,DL 35 34,(OJ 36 .quo 35 8,DP),DI 37 1 31 36,DL 38 37,DM 39 2,DM 40 6,DD 41 .shr 39 40,(OO 42 (.bin .and (.t 41) (.c (.int .u64 1))),DP),(OO 43 (.convI .u8 (.t 42)),DP),DM 44 0,DN 45 44,DF 46 1 45,DL 47 46,(OJ 48 .rem 47 8,DP),(OO 49 (.bin .sub (IC 7) (.t 48)),DP),DD 50 .shl 43 49,DD 51 .or 38 50,(OI 52 1 31 36,DB),(⟨none,.store 1 (.t 52) (.t 51),none⟩,DB)]) (.ops [OM 53 0,ON 54 53,OF 55 1 54,OL 56 55,OJ 57 .add 56 1,ON 58 53,OF 59 1 58,⟨none,.store 1 (.t 59) (.t 57),none⟩])))) (.ops [OM 11 6,OJ 12 .sub 11 1,OM 6 12]))))),false⟩
theorem e241 : T 241 = some c241 := by kernel_rfl
def c246 : Fun1 := ⟨[.tmp 2],SQ [OK 2 0] (.seq (SQ [OM 3 0,OO 4 (.bin .geq (.t 3) (.c (.int .u64 4294967296)))] (CS 4 (SQ [OM 5 0,OO 6 (.bin .shr (.t 5) (.c (.int .u64 32))),OM 0 6] (.ops [OK 2 32])))) (.seq (SQ [OM 7 0,OO 8 (.bin .geq (.t 7) (.c (.int .u64 65536)))] (CS 8 (SQ [OM 9 0,OO 10 (.bin .shr (.t 9) (.c (.int .u64 16))),OM 0 10] (.ops [OM 11 2,OJ 12 .add 11 16,OM 2 12])))) (.seq (SQ [OM 13 0,OO 14 (.bin .geq (.t 13) (.c (.int .u64 256)))] (CS 14 (SQ [OM 15 0,OO 16 (.bin .shr (.t 15) (.c (.int .u64 8))),OM 0 16] (.ops [OM 17 2,OJ 18 .add 17 8,OM 2 18])))) (SQ [OM 19 2,OM 20 0,OO 21 (.convI .u8 (.t 20)),OO 22 (.indexS (.c (.str (.mk (.mk [0,1,2,2,3,3,3,3,4,4,4,4,4,4,4,4,5,5,5,5,5,5,5,5,5,5,5,5,5,5,5,5,6,6,6,6,6,6,6,6,6,6,6,6,6,6,6,6,6,6,6,6,6,6,6,6,6,6,6,6,6,6,6,6,7,7,7,7,7,7,7,7,7,7,7,7,7,7,7,7,7,7,7,7,7,7,7,7,7,7,7,7,7,7,7,7,7,7,7,7,7,7,7,7,7,7,7,7,7,7,7,7,7,7,7,7,7,7,7,7,7,7,7,7,7,7,7,7,8,8,8,8,8,8,8,8,8,8,8,8,8,8,8,8,8,8,8,8,8,8,8,8,8,8,8,8,8,8,8,8,8,8,8,8,8,8,8,8,8,8,8,8,8,8,8,8,8,8,8,8,8,8,8,8,8,8,8,8,8,8,8,8,8,8,8,8,8,8,8,8,8,8,8,8,8,8,8,8,8,8,8,8,8,8,8,8,8,8,8,8,8,8,8,8,8,8,8,8,8,8,8,8,8,8,8,8,8,8,8,8,8,8,8,8,8,8,8,8,8,8,8,8,8,8,8,8])))) (.t 21)),OO 23 (.convI .i64 (.t 22)),OB 24 .add 19 23,OM 2 24] .ret)))),false⟩
theorem e246 : T 246 = some c246 := by kernel_rfl
end Go.Sh
namespace Go.Sh
set_option linter.unusedSectionVars false
set_option linter.unnecessarySimpa false
set_option linter.unusedVariables false
set_option linter.unusedSimpArgs false
set_option maxRecDepth 100000
set_option maxHeartbeats 4000000
def flI (a : Int) : Int := bif decide (a.tmod 1000000000 < 0) then w64 (w64 (a.tdiv 1000000000) - 1) else w64 (a.tdiv 1000000000)
theorem s167 (n : Nat) (H : Heap) (a : Int) : call1 T (n + 1) (.fn 167) [.int .i64 a, .int .i64 1000000000] H = some (.int .i64 (flI a), H) := by
  refine call_pure e167 (by rfl) ?_
  simp only [c167, heap0, go_sem, Int.reduceToNat, Nat.reduceAdd, Nat.reduceBEq, Nat.reduceLeDiff, Nat.reduceLT, Nat.reduceMul, Nat.reduceSub, Int.reduceEq, Int.reduceLT, Int.reduceLE, Int.reduceNeg, flI]
  repeat' (with_reducible refine fork_split (fun _ => ?_) (fun _ => ?_) <;> simp only [*, go_sem, Int.reduceToNat, Nat.reduceAdd, Nat.reduceBEq, Nat.reduceLeDiff, Nat.reduceLT, Nat.reduceMul, Nat.reduceSub, Int.reduceEq, Int.reduceLT, Int.reduceLE, Int.reduceNeg, flI])
theorem s126 (n : Nat) (H : Heap) (a : Int) : call1 T (n + 1) (.fn 126) [.int .i64 a, .int .i64 1000000000] H = some (.int .i64 (flI a), H) := by
  refine call_pure e126 (by rfl) ?_
  simp only [c126, heap0, go_sem, Int.reduceToNat, Nat.reduceAdd, Nat.reduceBEq, Nat.reduceLeDiff, Nat.reduceLT, Nat.reduceMul, Nat.reduceSub, Int.reduceEq, Int.reduceLT, Int.reduceLE, Int.reduceNeg, flI]
  repeat' (with_reducible refine fork_split (fun _ => ?_) (fun _ => ?_) <;> simp only [*, go_sem, Int.reduceToNat, Nat.reduceAdd, Nat.reduceBEq, Nat.reduceLeDiff, Nat.reduceLT, Nat.reduceMul, Nat.reduceSub, Int.reduceEq, Int.reduceLT, Int.reduceLE, Int.reduceNeg, flI])
def ckC (o d : Int) : Bool := decide (-1099511627776 ≤ o) && decide (o ≤ 1099511627776) && decide (-100000 ≤ d) && decide (d ≤ 100000)
def ckCI (o d : Int) : Int := bif ckC o d then 0 else 1
theorem ckCI_eq (o d : Int) : ckCI o d = if -1099511627776 ≤ o ∧ o ≤ 1099511627776 ∧ -100000 ≤ d ∧ d ≤ 100000 then 0 else 1 := by
  unfold ckCI ckC
  by_cases h1 : -1099511627776 ≤ o <;> by_cases h2 : o ≤ 1099511627776 <;> by_cases h3 : -100000 ≤ d <;> by_cases h4 : d ≤ 100000 <;> simp [h1, h2, h3, h4]
theorem s60 (n : Nat) (H : Heap) (o d : Int) : call1 T (n + 1) (.fn 60) [.agg [.int .i64 o, .int .i64 d]] H = some (.int .i64 (ckCI o d), H) := by
  refine call_pure e60 (by rfl) ?_
  simp only [c60, heap0, go_sem, Int.reduceToNat, Nat.reduceAdd, Nat.reduceBEq, Nat.reduceLeDiff, Nat.reduceLT, Nat.reduceMul, Nat.reduceSub, Int.reduceEq, Int.reduceLT, Int.reduceLE, Int.reduceNeg]
  repeat' (with_reducible refine fork_split (fun _ => ?_) (fun _ => ?_) <;> simp only [*, go_sem, Int.reduceToNat, Nat.reduceAdd, Nat.reduceBEq, Nat.reduceLeDiff, Nat.reduceLT, Nat.reduceMul, Nat.reduceSub, Int.reduceEq, Int.reduceLT, Int.reduceLE, Int.reduceNeg])
  all_goals (refine congrArg some (congrArg (SV.int .i64) ?_); simp only [decide_eq_true_eq, decide_eq_false_iff_not] at *; rw [ckCI_eq]; split <;> omega)
theorem s69 (n : Nat) (H : Heap) (o d : Int) : call1 T (n + 1) (.fn 69) [.agg [.int .i64 o, .int .i64 d]] H = some (.int .i64 (ckCI o d), H) := by
  refine call_pure e69 (by rfl) ?_
  simp only [c69, heap0, go_sem, Int.reduceToNat, Nat.reduceAdd, Nat.reduceBEq, Nat.reduceLeDiff, Nat.reduceLT, Nat.reduceMul, Nat.reduceSub, Int.reduceEq, Int.reduceLT, Int.reduceLE, Int.reduceNeg]
  repeat' (with_reducible refine fork_split (fun _ => ?_) (fun _ => ?_) <;> simp only [*, go_sem, Int.reduceToNat, Nat.reduceAdd, Nat.reduceBEq, Nat.reduceLeDiff, Nat.reduceLT, Nat.reduceMul, Nat.reduceSub, Int.reduceEq, Int.reduceLT, Int.reduceLE, Int.reduceNeg])
  all_goals (refine congrArg some (congrArg (SV.int .i64) ?_); simp only [decide_eq_true_eq, decide_eq_false_iff_not] at *; rw [ckCI_eq]; split <;> omega)
def shI (o d t : Int) : Int := w64 (w64 (o + t) + flI (w64 (t * d)))
theorem s166 (n b : Nat) (H : Heap) (t o d : Int) (hb : H.bl[b]? = some (.box [.int .i64 o, .int .i64 d])) : call1 T (n + 2) (.fn 166) [.int .i64 t, .ptr b 0 0 0] H = some (.int .i64 (shI o d t), H) := by
  refine call_rox e166 rfl rfl (fun R k bl ro r hbl hk => ?_)
  have hb' : bl[b]? = some (.box [.int .i64 o, .int .i64 d]) := by
    rcases hbl with ⟨rfl, h0⟩ | rfl
    · simp [SV.refs.refsL, SV.refs] at h0
    · exact hb
  have hB : ∀ l : List SBlk, (bl ++ l)[b]? = some (.box [.int .i64 o, .int .i64 d]) := fun l => fr_b hb'
  simp only [c166, fr_get0, fr_getk, fr_set0, fr_setk, fr_take0, fr_takek, fr_drop0, fr_dropk, fr_le, fr_le0, fr_lt, fr_lt0, fr_lt1, fr_min, fr_mink, fr_beq, fr_beq0, fr_beq1, fr_maxle, fr_refl, fr_z, fr_s, List.append_assoc, List.length_append, Nat.add_assoc, go_sem, Int.reduceToNat, Nat.reduceAdd, Nat.reduceBEq, Nat.reduceLeDiff, Nat.reduceLT, Nat.reduceMul, Nat.reduceSub, Int.reduceEq, Int.reduceLT, Int.reduceLE, Int.reduceNeg, hb', hB, s167]
  have := hk []
  rw [List.append_nil] at this
  exact this
theorem s71 (n : Nat) (H : Heap) (t o d : Int) : call1 T (n + 2) (.fn 71) [.agg [.int .i64 o, .int .i64 d], .int .i64 t] H = some (.int .i64 (shI o d t), H) := by
  refine call_pure e71 (by rfl) ?_
  simp only [c71, heap0, go_sem, Int.reduceToNat, Nat.reduceAdd, Nat.reduceBEq, Nat.reduceLeDiff, Nat.reduceLT, Nat.reduceMul, Nat.reduceSub, Int.reduceEq, Int.reduceLT, Int.reduceLE, Int.reduceNeg, s126, shI]
theorem s169 (n b b1 b2 : Nat) (H : Heap) (t o d x : Int) (hb : H.bl[b]? = some (.box [.int .i64 o, .int .i64 d])) (hb1 : H.bl[b1]? = some (.box [.fn 166 [.ptr b 0 0 0]])) (hb2 : H.bl[b2]? = some (.box [.int .i64 x])) :
    call1 T (n + 3) (.fn 169) [.int .i64 t, .ptr b1 0 0 0, .ptr b2 0 0 0] H = some (.bool (decide (x ≤ shI o d t)), H) := by
  refine call_rox e169 rfl rfl (fun R k bl ro r hbl hk => ?_)
  obtain rfl : bl = H.bl := by
    rcases hbl with ⟨rfl, h0⟩ | rfl
    · simp [SV.refs.refsL, SV.refs] at h0
    · rfl
  have h6 := fun H' (h : H'.bl = H.bl) => s166 n b H' t o d (by rw [h]; exact hb)
  simp only [c169, fr_get0, fr_getk, fr_set0, fr_setk, fr_take0, fr_takek, fr_drop0, fr_dropk, fr_le, fr_le0, fr_lt, fr_lt0, fr_lt1, fr_min, fr_mink, fr_beq, fr_beq0, fr_beq1, fr_maxle, fr_refl, fr_z, fr_s, List.append_assoc, List.length_append, Nat.add_assoc, go_sem, Int.reduceToNat, Nat.reduceAdd, Nat.reduceBEq, Nat.reduceLeDiff, Nat.reduceLT, Nat.reduceMul, Nat.reduceSub, Int.reduceEq, Int.reduceLT, Int.reduceLE, Int.reduceNeg, hb1, hb2, h6]
  have := hk []
  rw [List.append_nil] at this
  exact this
end Go.Sh
namespace Go.Sh
set_option linter.unusedSectionVars false
set_option linter.unnecessarySimpa false
set_option linter.unusedVariables false
set_option linter.unusedSimpArgs false
set_option maxRecDepth 100000
set_option maxHeartbeats 4000000
def bs (q : Int → Bool) : Nat → Int × Int
  | 0 => (0, 1099511627776)
  | i + 1 => bif decide ((bs q i).1 < (bs q i).2) then (bif q (((bs q i).1 + (bs q i).2) / 2) then ((bs q i).1, ((bs q i).1 + (bs q i).2) / 2) else (((bs q i).1 + (bs q i).2) / 2 + 1, (bs q i).2)) else bs q i
theorem bs_inv (q : Int → Bool) : ∀ i, 0 ≤ (bs q i).1 ∧ (bs q i).1 ≤ (bs q i).2 ∧ (bs q i).2 ≤ 1099511627776 ∧ ((bs q i).2 - (bs q i).1) * 2 ^ i ≤ 1099511627776
  | 0 => by simp [bs]
  | i + 1 => by
    obtain ⟨h1, h2, h3, h4⟩ := bs_inv q i
    rw [bs]
    generalize hl : (bs q i).1 = l at *
    generalize hh : (bs q i).2 = h at *
    have hp : (0 : Int) ≤ 2 ^ i := Int.pow_nonneg (by omega)
    have key : ∀ d : Int, 2 * d ≤ h - l → d * 2 ^ (i + 1) ≤ 1099511627776 := fun d hd => by
      rw [Int.pow_succ, Int.mul_comm (2 ^ i) 2, ← Int.mul_assoc, Int.mul_comm d 2]
      exact Int.le_trans (Int.mul_le_mul_of_nonneg_right hd hp) h4
    cases hlt : decide (l < h) with
    | true =>
      simp only [decide_eq_true_eq] at hlt
      cases q ((l + h) / 2) with
      | true =>
        simp only [cond_true]
        exact ⟨by omega, by omega, by omega, key _ (by omega)⟩
      | false =>
        simp only [cond_true, cond_false]
        exact ⟨by omega, by omega, by omega, key _ (by omega)⟩
    | false =>
      simp only [decide_eq_false_iff_not] at hlt
      simp only [cond_false]
      rw [hl, hh]
      exact ⟨h1, h2, h3, by rw [show h - l = 0 by omega]; omega⟩
theorem bs_end (q : Int → Bool) : (bs q 41).1 = (bs q 41).2 := by
  obtain ⟨h1, h2, h3, h4⟩ := bs_inv q 41
  have : ((2 : Int) ^ 41) = 2199023255552 := by decide
  rw [this] at h4
  omega
theorem bs_fix (q : Int → Bool) (i : Nat) (h : decide ((bs q i).1 < (bs q i).2) = false) : ∀ k, bs q (i + k) = bs q i
  | 0 => rfl
  | k + 1 => by
    have e := bs_fix q i h k
    rw [← Nat.add_assoc, bs, e, h]
    rfl
def srch (q : Int → Bool) : Int := (bs q 41).1
theorem srch_at (q : Int → Bool) (i : Nat) (hi : i ≤ 41) (h : decide ((bs q i).1 < (bs q i).2) = false) : srch q = (bs q i).1 := by
  have := bs_fix q i h (41 - i)
  rw [srch, show 41 = i + (41 - i) by omega, this]
theorem half_eq {z : Int} (h0 : 0 ≤ z) (h1 : z ≤ 2199023255552) : w64 ((IntKind.u64.wrap z).fdiv (2 ^ min 1 64)) = z / 2 := by
  have e : IntKind.u64.wrap z = z % 18446744073709551616 := by simp [IntKind.wrap, IntKind.bits, IntKind.signed]
  have e2 : (2 : Int) ^ min 1 64 = 2 := by decide
  rw [e, e2, Int.fdiv_eq_ediv_of_nonneg _ (by omega), Int.emod_eq_of_lt h0 (by omega)]
  exact w64_id (by omega) (by omega)
theorem s168 (n b b1 b2 : Nat) (H : Heap) (o d x : Int) (hb : H.bl[b]? = some (.box [.int .i64 o, .int .i64 d])) (hb1 : H.bl[b1]? = some (.box [.fn 166 [.ptr b 0 0 0]])) (hb2 : H.bl[b2]? = some (.box [.int .i64 x])) :
    call1 T (n + 4) (.fn 168) [.int .i64 1099511627776, .fn 169 [.ptr b1 0 0 0, .ptr b2 0 0 0]] H = some (.int .i64 (srch fun t => decide (x ≤ shI o d t)), H) := by
  refine call_rox e168 rfl rfl (fun R k bl ro r hbl hk => ?_)
  obtain rfl : bl = H.bl := by
    rcases hbl with ⟨rfl, h0⟩ | rfl
    · simp [SV.refs.refsL, SV.refs] at h0
    · rfl
  have h6 := fun t H' (h : H'.bl = H.bl) => s169 n b b1 b2 H' t o d x (by rw [h]; exact hb) (by rw [h]; exact hb1) (by rw [h]; exact hb2)
  obtain ⟨q, hq⟩ : ∃ q : Int → Bool, q = fun t => decide (x ≤ shI o d t) := ⟨_, rfl⟩
  rw [← hq] at hk
  simp only [c168, fr_get0, fr_getk, fr_set0, fr_setk, fr_take0, fr_takek, fr_drop0, fr_dropk, fr_le, fr_le0, fr_lt, fr_lt0, fr_lt1, fr_min, fr_mink, fr_beq, fr_beq0, fr_beq1, fr_maxle, fr_refl, fr_z, fr_s, List.append_assoc, List.length_append, Nat.add_assoc, go_sem, Int.reduceToNat, Nat.reduceAdd, Nat.reduceBEq, Nat.reduceLeDiff, Nat.reduceLT, Nat.reduceMul, Nat.reduceSub, Int.reduceEq, Int.reduceLT, Int.reduceLE, Int.reduceNeg]
  refine loop_rule (fun i => ([(1, .fn 169 [.ptr b1 0 0 0, .ptr b2 0 0 0]), (5, .int .i64 (bs q i).1), (6, .int .i64 (bs q i).2)], ⟨H.bl, [], min ro H.bl.length⟩)) (fun _ => True) 41 ?_ trivial ?_
  · have l1 : decide (b1 + 1 ≤ H.bl.length) = true := decide_eq_true (List.getElem?_eq_some_iff.1 hb1).1
    have l2 : decide (b2 + 1 ≤ H.bl.length) = true := decide_eq_true (List.getElem?_eq_some_iff.1 hb2).1
    simp only [fr_get0, fr_getk, fr_set0, fr_setk, fr_take0, fr_takek, fr_drop0, fr_dropk, fr_le, fr_le0, fr_lt, fr_lt0, fr_lt1, fr_min, fr_mink, fr_beq, fr_beq0, fr_beq1, fr_maxle, fr_refl, fr_z, fr_s, List.append_assoc, List.length_append, Nat.add_assoc, go_sem, Int.reduceToNat, Nat.reduceAdd, Nat.reduceBEq, Nat.reduceLeDiff, Nat.reduceLT, Nat.reduceMul, Nat.reduceSub, Int.reduceEq, Int.reduceLT, Int.reduceLE, Int.reduceNeg, bs, l1, l2]
  · intro i hi _
    have l1 : decide (b1 + 1 ≤ H.bl.length) = true := decide_eq_true (List.getElem?_eq_some_iff.1 hb1).1
    have l2 : decide (b2 + 1 ≤ H.bl.length) = true := decide_eq_true (List.getElem?_eq_some_iff.1 hb2).1
    obtain ⟨g1, g2, g3, _⟩ := bs_inv q i
    cases hlt : decide ((bs q i).1 < (bs q i).2) with
    | false =>
      simp only [fr_get0, fr_getk, fr_set0, fr_setk, fr_take0, fr_takek, fr_drop0, fr_dropk, fr_le, fr_le0, fr_lt, fr_lt0, fr_lt1, fr_min, fr_mink, fr_beq, fr_beq0, fr_beq1, fr_maxle, fr_refl, fr_z, fr_s, List.append_assoc, List.length_append, Nat.add_assoc, go_sem, Int.reduceToNat, Nat.reduceAdd, Nat.reduceBEq, Nat.reduceLeDiff, Nat.reduceLT, Nat.reduceMul, Nat.reduceSub, Int.reduceEq, Int.reduceLT, Int.reduceLE, Int.reduceNeg, hlt]
      have := hk []
      rw [List.append_nil, srch_at q i hi hlt] at this
      exact this
    | true =>
      have hw : w64 ((bs q i).1 + (bs q i).2) = (bs q i).1 + (bs q i).2 := w64_id (by omega) (by omega)
      have hm := half_eq (z := (bs q i).1 + (bs q i).2) (by omega) (by omega)
      have hw2 : w64 (((bs q i).1 + (bs q i).2) / 2 + 1) = ((bs q i).1 + (bs q i).2) / 2 + 1 := w64_id (by omega) (by omega)
      have hi2 : i < 41 := by
        rcases Nat.lt_or_ge i 41 with h | h
        · exact h
        · obtain rfl : i = 41 := by omega
          rw [bs_end, decide_eq_true_eq] at hlt
          omega
      have hb : bs q (i + 1) = bif q (((bs q i).1 + (bs q i).2) / 2) then ((bs q i).1, ((bs q i).1 + (bs q i).2) / 2) else (((bs q i).1 + (bs q i).2) / 2 + 1, (bs q i).2) := by rw [bs, hlt]; rfl
      have h6 := h6 (((bs q i).1 + (bs q i).2) / 2) ⟨H.bl, [], min ro H.bl.length⟩ rfl
      rw [show decide (x ≤ shI o d (((bs q i).1 + (bs q i).2) / 2)) = q (((bs q i).1 + (bs q i).2) / 2) by rw [hq]] at h6
      cases hv : q (((bs q i).1 + (bs q i).2) / 2) with
      | false =>
        rw [hv] at h6 hb
        simp only [fr_get0, fr_getk, fr_set0, fr_setk, fr_take0, fr_takek, fr_drop0, fr_dropk, fr_le, fr_le0, fr_lt, fr_lt0, fr_lt1, fr_min, fr_mink, fr_beq, fr_beq0, fr_beq1, fr_maxle, fr_refl, fr_z, fr_s, List.append_assoc, List.length_append, Nat.add_assoc, go_sem, Int.reduceToNat, Nat.reduceAdd, Nat.reduceBEq, Nat.reduceLeDiff, Nat.reduceLT, Nat.reduceMul, Nat.reduceSub, Int.reduceEq, Int.reduceLT, Int.reduceLE, Int.reduceNeg, hlt, hw, hm, h6, hw2, hb, l1, l2]
        exact ⟨hi2, trivial, trivial⟩
      | true =>
        rw [hv] at h6 hb
        simp only [fr_get0, fr_getk, fr_set0, fr_setk, fr_take0, fr_takek, fr_drop0, fr_dropk, fr_le, fr_le0, fr_lt, fr_lt0, fr_lt1, fr_min, fr_mink, fr_beq, fr_beq0, fr_beq1, fr_maxle, fr_refl, fr_z, fr_s, List.append_assoc, List.length_append, Nat.add_assoc, go_sem, Int.reduceToNat, Nat.reduceAdd, Nat.reduceBEq, Nat.reduceLeDiff, Nat.reduceLT, Nat.reduceMul, Nat.reduceSub, Int.reduceEq, Int.reduceLT, Int.reduceLE, Int.reduceNeg, hlt, hw, hm, h6, hb, l1, l2]
        exact ⟨hi2, trivial, trivial⟩
end Go.Sh
namespace Go.Sh
set_option linter.unusedSectionVars false
set_option linter.unnecessarySimpa false
set_option linter.unusedVariables false
set_option linter.unusedSimpArgs false
set_option maxRecDepth 100000
set_option maxHeartbeats 4000000
theorem call_rot {T : FuncId → Option Fun1} {f : FuncId} {F : Fun1} {xs : List SV} {n : Nat} {H : Heap} {a c : Int} (hT : T f = some F) (hk : F.keep = false)
    (h : ∀ (R : Type) (k : SV → Heap → Option R) (bl : List SBlk) (ro : Nat) (r : Option R), (bl = [] ∧ SV.refs.refsL xs = 0 ∨ bl = H.bl) → (∀ ext, k (.tup [.int .i64 a, .int .i64 c]) ⟨bl ++ ext, [], min ro bl.length⟩ = r) →
      runK (call1 T n) (fin1 F.res k) F.body [] (env0 xs) ⟨bl, [], min ro bl.length⟩ () = r) :
    call1 T (n + 1) (.fn f) xs H = some (.tup [.int .i64 a, .int .i64 c], H) := by
  have hfz : ∀ N H', frz N H' depth1 (.tup [.int .i64 a, .int .i64 c]) = some (.tup [.int .i64 a, .int .i64 c]) := fun N H' => by simp [depth1, frz, allS]
  cases hp : pure0 F xs with
  | true =>
    refine call_pure hT hp ?_
    have hr : SV.refs.refsL xs = 0 := by
      unfold pure0 at hp
      simp only [Bool.and_eq_true, beq_iff_eq] at hp
      exact hp.1
    exact h SV (fun v H' => frz 0 H' depth1 v) [] 0 _ (.inl ⟨rfl, hr⟩) (fun ext => hfz _ _)
  | false =>
    refine call_in hT hp ?_
    refine h _ (fun v H' => leave1 F.keep H v H') H.bl H.ro _ (.inr rfl) (fun ext => ?_)
    rw [hk, leave_not, hfz]
    obtain ⟨bl, es, ro⟩ := H
    simp [Sh.trunc]
def rV (o d x : Int) : Int := bif decide (shI o d 1099511627776 < x) then 0 else srch fun t => decide (x ≤ shI o d t)
def rE (o d x : Int) : Int := bif decide (shI o d 1099511627776 < x) then 15 else 0
theorem s124 (n b : Nat) (H : Heap) (o d x : Int) (hb : H.bl[b]? = some (.box [.int .i64 o, .int .i64 d])) :
    call1 T (n + 5) (.fn 124) [.agg [.fn 166 [.ptr b 0 0 0]], .int .i64 x] H = some (.tup [.int .i64 (rV o d x), .int .i64 (rE o d x)], H) := by
  refine call_rot e124 rfl (fun R k bl ro r hbl hk => ?_)
  obtain rfl : bl = H.bl := by
    rcases hbl with ⟨rfl, h0⟩ | rfl
    · simp [SV.refs.refsL, SV.refs] at h0
    · rfl
  have h6 := fun t H' (h : H'.bl[b]? = some (.box [.int .i64 o, .int .i64 d])) => s166 (n + 2) b H' t o d h
  have h7 := fun H' hb hb1 hb2 => s168 n b H.bl.length (H.bl.length + 1) H' o d x hb hb1 hb2
  have hB : ∀ l : List SBlk, (H.bl ++ l)[b]? = some (.box [.int .i64 o, .int .i64 d]) := fun l => fr_b hb
  unfold rV rE at hk
  cases hc : decide (shI o d 1099511627776 < x) with
  | true =>
    rw [hc] at hk
    simp only [c124, fr_get0, fr_getk, fr_set0, fr_setk, fr_take0, fr_takek, fr_drop0, fr_dropk, fr_le, fr_le0, fr_lt, fr_lt0, fr_lt1, fr_min, fr_mink, fr_beq, fr_beq0, fr_beq1, fr_maxle, fr_refl, fr_z, fr_s, List.append_assoc, List.length_append, Nat.add_assoc, go_sem, Int.reduceToNat, Nat.reduceAdd, Nat.reduceBEq, Nat.reduceLeDiff, Nat.reduceLT, Nat.reduceMul, Nat.reduceSub, Int.reduceEq, Int.reduceLT, Int.reduceLE, Int.reduceNeg, h6, hB, hc]
    exact hk _
  | false =>
    rw [hc] at hk
    simp only [c124, fr_get0, fr_getk, fr_set0, fr_setk, fr_take0, fr_takek, fr_drop0, fr_dropk, fr_le, fr_le0, fr_lt, fr_lt0, fr_lt1, fr_min, fr_mink, fr_beq, fr_beq0, fr_beq1, fr_maxle, fr_refl, fr_z, fr_s, List.append_assoc, List.length_append, Nat.add_assoc, go_sem, Int.reduceToNat, Nat.reduceAdd, Nat.reduceBEq, Nat.reduceLeDiff, Nat.reduceLT, Nat.reduceMul, Nat.reduceSub, Int.reduceEq, Int.reduceLT, Int.reduceLE, Int.reduceNeg, h6, h7, hB, hc]
    exact hk _
theorem s123 (n : Nat) (bl es ro) (o d : Int) : call1 T (n + 1) (.kfn 123) [.agg [.int .i64 o, .int .i64 d]] ⟨bl, es, ro⟩ =
    some (.agg [.fn 166 [.ptr bl.length 0 0 0]], ⟨bl ++ [.box [.int .i64 o, .int .i64 d], .box [.fn 166 [.ptr bl.length 0 0 0]]], es, ro⟩) := by
  refine kcall_in e123 ?_
  simp only [c123, fr_get0, fr_getk, fr_set0, fr_setk, fr_take0, fr_takek, fr_drop0, fr_dropk, fr_le, fr_le0, fr_lt, fr_lt0, fr_lt1, fr_min, fr_mink, fr_beq, fr_beq0, fr_beq1, fr_maxle, fr_refl, fr_z, fr_s, List.append_assoc, List.length_append, Nat.add_assoc, go_sem, Int.reduceToNat, Nat.reduceAdd, Nat.reduceBEq, Nat.reduceLeDiff, Nat.reduceLT, Nat.reduceMul, Nat.reduceSub, Int.reduceEq, Int.reduceLT, Int.reduceLE, Int.reduceNeg]
def slB (o d s : Int) : Bool := ckC o d && (decide (0 ≤ s) && decide (s ≤ 109951162))
def slE (o d s : Int) : Int := bif ckC o d then (bif decide (0 ≤ s) && decide (s ≤ 109951162) then 0 else 2) else 1
theorem s122 (n : Nat) (H : Heap) (o d s : Int) : call1 T (n + 2) (.fn 122) [.agg [.int .i64 o, .int .i64 d], .int .i64 s] H = some (.int .i64 (slE o d s), H) := by
  have h6 := fun H => s60 n H o d
  unfold slE
  unfold ckCI at h6
  cases hc : ckC o d with
  | false =>
    rw [hc] at h6
    (refine call_pure e122 (by rfl) ?_; simp only [c122, heap0, go_sem, Int.reduceToNat, Nat.reduceAdd, Nat.reduceBEq, Nat.reduceLeDiff, Nat.reduceLT, Nat.reduceMul, Nat.reduceSub, Int.reduceEq, Int.reduceLT, Int.reduceLE, Int.reduceNeg, h6])
  | true =>
    rw [hc] at h6
    by_cases h1 : s < 0
    · have e1 : decide (s < 0) = true := decide_eq_true h1
      have e2 : decide (0 ≤ s) = false := decide_eq_false (by omega)
      (refine call_pure e122 (by rfl) ?_; simp only [c122, heap0, go_sem, Int.reduceToNat, Nat.reduceAdd, Nat.reduceBEq, Nat.reduceLeDiff, Nat.reduceLT, Nat.reduceMul, Nat.reduceSub, Int.reduceEq, Int.reduceLT, Int.reduceLE, Int.reduceNeg, h6, e1, e2])
    · have e1 : decide (s < 0) = false := decide_eq_false h1
      have e2 : decide (0 ≤ s) = true := decide_eq_true (by omega)
      by_cases h3 : s ≤ 109951162
      · have e3 : decide (s ≤ 109951162) = true := decide_eq_true h3
        have e4 : decide (109951162 < s) = false := decide_eq_false (by omega)
        (refine call_pure e122 (by rfl) ?_; simp only [c122, heap0, go_sem, Int.reduceToNat, Nat.reduceAdd, Nat.reduceBEq, Nat.reduceLeDiff, Nat.reduceLT, Nat.reduceMul, Nat.reduceSub, Int.reduceEq, Int.reduceLT, Int.reduceLE, Int.reduceNeg, h6, e1, e2, e3, e4])
      · have e3 : decide (s ≤ 109951162) = false := decide_eq_false h3
        have e4 : decide (109951162 < s) = true := decide_eq_true (by omega)
        (refine call_pure e122 (by rfl) ?_; simp only [c122, heap0, go_sem, Int.reduceToNat, Nat.reduceAdd, Nat.reduceBEq, Nat.reduceLeDiff, Nat.reduceLT, Nat.reduceMul, Nat.reduceSub, Int.reduceEq, Int.reduceLT, Int.reduceLE, Int.reduceNeg, h6, e1, e2, e3, e4])
def snV (o d s : Int) : Int := bif slB o d s then rV o d (s * 10000 + 2120) else 0
def snE (o d s : Int) : Int := bif slB o d s then rE o d (s * 10000 + 2120) else slE o d s
def wnE (o d s : Int) : Int := bif slB o d s then rE o d (s * 10000 + 3221) else slE o d s
def wnA (o d s : Int) : Int := bif slB o d s && decide (s * 10000 + 3221 ≤ shI o d 1099511627776) then rV o d (s * 10000 + 1020) else 0
def wnB (o d s : Int) : Int := bif slB o d s && decide (s * 10000 + 3221 ≤ shI o d 1099511627776) then w64 (rV o d (s * 10000 + 3221) - 1) else 0
theorem slB_spec {o d s : Int} (h : slB o d s = true) : ckC o d = true ∧ 0 ≤ s ∧ s ≤ 109951162 ∧ slE o d s = 0 := by
  unfold slB at h
  unfold slE
  cases h1 : ckC o d
  · rw [h1, Bool.false_and] at h; cases h
  · rw [h1, Bool.true_and] at h
    rw [h]
    simp only [Bool.and_eq_true, decide_eq_true_eq] at h
    exact ⟨rfl, h.1, h.2, rfl⟩
theorem slB_no {o d s : Int} (h : slB o d s = false) : decide (slE o d s = 0) = false := by
  unfold slB at h
  unfold slE
  cases h1 : ckC o d
  · rfl
  · rw [h1, Bool.true_and] at h
    rw [h]
    rfl
theorem s66 (n : Nat) (H : Heap) (o d s : Int) : call1 T (n + 6) (.fn 66) [.agg [.int .i64 o, .int .i64 d], .int .i64 s] H = some (.tup [.int .i64 (snV o d s), .int .i64 (snE o d s)], H) := by
  have h122 := fun H => s122 (n + 3) H o d s
  have h123 := fun bl es ro => s123 (n + 4) bl es ro o d
  unfold snV snE
  cases hb : slB o d s with
  | false =>
    have h0 := slB_no hb
    (refine call_pure e66 (by rfl) ?_; simp only [c66, heap0, go_sem, Int.reduceToNat, Nat.reduceAdd, Nat.reduceBEq, Nat.reduceLeDiff, Nat.reduceLT, Nat.reduceMul, Nat.reduceSub, Int.reduceEq, Int.reduceLT, Int.reduceLE, Int.reduceNeg, h122, h0])
  | true =>
    obtain ⟨h1, h2, h3, h4⟩ := slB_spec hb
    rw [h4] at h122
    have hw : w64 (w64 (s * 10000) + 2120) = s * 10000 + 2120 := by rw [w64_id (n := s * 10000) (by omega) (by omega)]; exact w64_id (by omega) (by omega)
    have h124 := fun H hb => s124 n 1 H o d (s * 10000 + 2120) hb
    (refine call_pure e66 (by rfl) ?_; simp only [c66, heap0, go_sem, Int.reduceToNat, Nat.reduceAdd, Nat.reduceBEq, Nat.reduceLeDiff, Nat.reduceLT, Nat.reduceMul, Nat.reduceSub, Int.reduceEq, Int.reduceLT, Int.reduceLE, Int.reduceNeg, h122, h123, h124, hw])
theorem s67 (n : Nat) (H : Heap) (o d s : Int) : call1 T (n + 6) (.fn 67) [.agg [.int .i64 o, .int .i64 d], .int .i64 s] H = some (.tup [.int .i64 (wnA o d s), .int .i64 (wnB o d s), .int .i64 (wnE o d s)], H) := by
  have h122 := fun H => s122 (n + 3) H o d s
  have h123 := fun bl es ro => s123 (n + 4) bl es ro o d
  unfold wnA wnB wnE
  cases hb : slB o d s with
  | false =>
    have h0 := slB_no hb
    (refine call_pure e67 (by rfl) ?_; simp only [c67, heap0, go_sem, Int.reduceToNat, Nat.reduceAdd, Nat.reduceBEq, Nat.reduceLeDiff, Nat.reduceLT, Nat.reduceMul, Nat.reduceSub, Int.reduceEq, Int.reduceLT, Int.reduceLE, Int.reduceNeg, h122, h0])
  | true =>
    obtain ⟨h1, h2, h3, h4⟩ := slB_spec hb
    rw [h4] at h122
    have hw0 : w64 (w64 (s * 10000) + 2120) = s * 10000 + 2120 := by rw [w64_id (n := s * 10000) (by omega) (by omega)]; exact w64_id (by omega) (by omega)
    have hw1 : w64 (s * 10000 + 2120 - 1100) = s * 10000 + 1020 := by rw [w64_id (by omega) (by omega)]; omega
    have hw2 : w64 (w64 (s * 10000 + 2120 + 1100) + 1) = s * 10000 + 3221 := by rw [w64_id (n := s * 10000 + 2120 + 1100) (by omega) (by omega), w64_id (by omega) (by omega)]; omega
    have h124 := fun H hb => s124 n 1 H o d (s * 10000 + 1020) hb
    have h125 := fun H hb => s124 n 3 H o d (s * 10000 + 3221) hb
    cases hc : decide (s * 10000 + 3221 ≤ shI o d 1099511627776) with
    | true =>
      have hE1 : rE o d (s * 10000 + 1020) = 0 := by unfold rE; rw [decide_eq_false (by rw [decide_eq_true_eq] at hc; omega)]; rfl
      have hE2 : rE o d (s * 10000 + 3221) = 0 := by unfold rE; rw [decide_eq_false (by rw [decide_eq_true_eq] at hc; omega)]; rfl
      rw [hE1] at h124
      rw [hE2] at h125
      (refine call_pure e67 (by rfl) ?_; simp only [c67, heap0, go_sem, Int.reduceToNat, Nat.reduceAdd, Nat.reduceBEq, Nat.reduceLeDiff, Nat.reduceLT, Nat.reduceMul, Nat.reduceSub, Int.reduceEq, Int.reduceLT, Int.reduceLE, Int.reduceNeg, h122, h123, h124, h125, hw0, hw1, hw2, hE2])
    | false =>
      have hE2 : rE o d (s * 10000 + 3221) = 15 := by unfold rE; rw [decide_eq_true (by rw [decide_eq_false_iff_not] at hc; omega)]; rfl
      rw [hE2] at h125
      cases hd : decide (rE o d (s * 10000 + 1020) = 0) with
      | true =>
        (refine call_pure e67 (by rfl) ?_; simp only [c67, heap0, go_sem, Int.reduceToNat, Nat.reduceAdd, Nat.reduceBEq, Nat.reduceLeDiff, Nat.reduceLT, Nat.reduceMul, Nat.reduceSub, Int.reduceEq, Int.reduceLT, Int.reduceLE, Int.reduceNeg, h122, h123, h124, h125, hw0, hw1, hw2, hE2, hd])
      | false =>
        (refine call_pure e67 (by rfl) ?_; simp only [c67, heap0, go_sem, Int.reduceToNat, Nat.reduceAdd, Nat.reduceBEq, Nat.reduceLeDiff, Nat.reduceLT, Nat.reduceMul, Nat.reduceSub, Int.reduceEq, Int.reduceLT, Int.reduceLE, Int.reduceNeg, h122, h123, h124, h125, hw0, hw1, hw2, hE2, hd])
end Go.Sh
namespace Go.Sh
set_option linter.unusedSectionVars false
set_option linter.unnecessarySimpa false
set_option linter.unusedVariables false
set_option linter.unusedSimpArgs false
set_option maxRecDepth 100000
set_option maxHeartbeats 4000000
theorem s88 (n : Nat) (H : Heap) (o d x : Int) (hk : ckC o d = true) : call1 T (n + 3) (.fn 88) [.agg [.int .i64 o, .int .i64 d], .int .i64 x] H = some (.tup [.int .i64 (rV o d x), .int .i64 (rE o d x)], H) := by
  refine call_pure e88 (by rfl) ?_
  have h69 := fun H => s69 (n + 1) H o d
  unfold ckCI at h69
  rw [hk] at h69
  have h71 := fun H t => s71 n H t o d
  unfold rV rE
  cases hc : decide (shI o d 1099511627776 < x) with
  | true => simp only [c88, heap0, go_sem, Int.reduceToNat, Nat.reduceAdd, Nat.reduceBEq, Nat.reduceLeDiff, Nat.reduceLT, Nat.reduceMul, Nat.reduceSub, Int.reduceEq, Int.reduceLT, Int.reduceLE, Int.reduceNeg, h69, h71, hc]
  | false =>
    simp only [c88, heap0, go_sem, Int.reduceToNat, Nat.reduceAdd, Nat.reduceBEq, Nat.reduceLeDiff, Nat.reduceLT, Nat.reduceMul, Nat.reduceSub, Int.reduceEq, Int.reduceLT, Int.reduceLE, Int.reduceNeg, h69, h71, hc]
    obtain ⟨q, hq⟩ : ∃ q : Int → Bool, q = fun t => decide (x ≤ shI o d t) := ⟨_, rfl⟩
    rw [← hq]
    refine loop_rule (fun i => ([(1, .int .i64 x), (2, .ptr 0 0 0 0), (6, .int .i64 (bs q i).1), (7, .int .i64 (bs q i).2)], ⟨[.box [.int .i64 o, .int .i64 d]], [], 0⟩)) (fun _ => True) 41 ?_ trivial ?_
    · simp only [go_sem, Int.reduceToNat, Nat.reduceAdd, Nat.reduceBEq, Nat.reduceLeDiff, Nat.reduceLT, Nat.reduceMul, Nat.reduceSub, Int.reduceEq, Int.reduceLT, Int.reduceLE, Int.reduceNeg, bs] <;> rfl
    · intro i hi _
      obtain ⟨g1, g2, g3, _⟩ := bs_inv q i
      cases hlt : decide ((bs q i).1 < (bs q i).2) with
      | false =>
        simp only [go_sem, Int.reduceToNat, Nat.reduceAdd, Nat.reduceBEq, Nat.reduceLeDiff, Nat.reduceLT, Nat.reduceMul, Nat.reduceSub, Int.reduceEq, Int.reduceLT, Int.reduceLE, Int.reduceNeg, hlt, srch_at q i hi hlt]
      | true =>
        have hw : w64 ((bs q i).1 + (bs q i).2) = (bs q i).1 + (bs q i).2 := w64_id (by omega) (by omega)
        have ht : ((bs q i).1 + (bs q i).2).tdiv 2 = ((bs q i).1 + (bs q i).2) / 2 := Int.tdiv_eq_ediv_of_nonneg (by omega)
        have hm : w64 (((bs q i).1 + (bs q i).2) / 2) = ((bs q i).1 + (bs q i).2) / 2 := w64_id (by omega) (by omega)
        have hw2 : w64 (((bs q i).1 + (bs q i).2) / 2 + 1) = ((bs q i).1 + (bs q i).2) / 2 + 1 := w64_id (by omega) (by omega)
        have hi2 : i < 41 := by
          rcases Nat.lt_or_ge i 41 with h | h
          · exact h
          · obtain rfl : i = 41 := by omega
            rw [bs_end, decide_eq_true_eq] at hlt
            omega
        have hb : bs q (i + 1) = bif q (((bs q i).1 + (bs q i).2) / 2) then ((bs q i).1, ((bs q i).1 + (bs q i).2) / 2) else (((bs q i).1 + (bs q i).2) / 2 + 1, (bs q i).2) := by rw [bs, hlt]; rfl
        have hv' : decide (x ≤ shI o d (((bs q i).1 + (bs q i).2) / 2)) = q (((bs q i).1 + (bs q i).2) / 2) := by rw [hq]
        cases hv : q (((bs q i).1 + (bs q i).2) / 2) with
        | false =>
          rw [hv] at hv' hb
          simp only [go_sem, Int.reduceToNat, Nat.reduceAdd, Nat.reduceBEq, Nat.reduceLeDiff, Nat.reduceLT, Nat.reduceMul, Nat.reduceSub, Int.reduceEq, Int.reduceLT, Int.reduceLE, Int.reduceNeg, hlt, hw, ht, hm, h71, hv', hw2, hb]
          refine ⟨hi2, ?_, ?_⟩ <;> first | trivial | rfl
        | true =>
          rw [hv] at hv' hb
          simp only [go_sem, Int.reduceToNat, Nat.reduceAdd, Nat.reduceBEq, Nat.reduceLeDiff, Nat.reduceLT, Nat.reduceMul, Nat.reduceSub, Int.reduceEq, Int.reduceLT, Int.reduceLE, Int.reduceNeg, hlt, hw, ht, hm, h71, hv', hb]
          refine ⟨hi2, ?_, ?_⟩ <;> first | trivial | rfl
theorem s50 (n : Nat) (H : Heap) (o d s x : Int) (hx0 : 0 ≤ x) (hx : x ≤ 10000) : call1 T (n + 4) (.fn 50) [.agg [.int .i64 o, .int .i64 d], .int .i64 s, .int .i64 x] H =
    some (.tup [.int .i64 (bif slB o d s then rV o d (s * 10000 + x) else 0), .int .i64 (bif slB o d s then rE o d (s * 10000 + x) else slE o d s)], H) := by
  have h69 := fun H => s69 (n + 2) H o d
  unfold ckCI at h69
  cases hb : slB o d s with
  | false =>
    unfold slE
    unfold slB at hb
    cases hc : ckC o d with
    | false =>
      rw [hc] at h69
      (refine call_pure e50 (by rfl) ?_; simp only [c50, heap0, go_sem, Int.reduceToNat, Nat.reduceAdd, Nat.reduceBEq, Nat.reduceLeDiff, Nat.reduceLT, Nat.reduceMul, Nat.reduceSub, Int.reduceEq, Int.reduceLT, Int.reduceLE, Int.reduceNeg, h69])
    | true =>
      rw [hc] at h69 hb
      rw [Bool.true_and] at hb
      by_cases h1 : s < 0
      · have e1 : decide (s < 0) = true := decide_eq_true h1
        (refine call_pure e50 (by rfl) ?_; simp only [c50, heap0, go_sem, Int.reduceToNat, Nat.reduceAdd, Nat.reduceBEq, Nat.reduceLeDiff, Nat.reduceLT, Nat.reduceMul, Nat.reduceSub, Int.reduceEq, Int.reduceLT, Int.reduceLE, Int.reduceNeg, h69, e1, hb])
      · have e1 : decide (s < 0) = false := decide_eq_false h1
        have e2 : decide (0 ≤ s) = true := decide_eq_true (by omega)
        rw [e2, Bool.true_and] at hb
        have e4 : decide (109951162 < s) = true := by simp only [decide_eq_true_eq, decide_eq_false_iff_not] at *; omega
        (refine call_pure e50 (by rfl) ?_; simp only [c50, heap0, go_sem, Int.reduceToNat, Nat.reduceAdd, Nat.reduceBEq, Nat.reduceLeDiff, Nat.reduceLT, Nat.reduceMul, Nat.reduceSub, Int.reduceEq, Int.reduceLT, Int.reduceLE, Int.reduceNeg, h69, e1, e2, hb, e4])
  | true =>
    obtain ⟨h1, h2, h3, h4⟩ := slB_spec hb
    rw [h1] at h69
    have e1 : decide (s < 0) = false := decide_eq_false (by omega)
    have e4 : decide (109951162 < s) = false := decide_eq_false (by omega)
    have hw : w64 (w64 (s * 10000) + x) = s * 10000 + x := by rw [w64_id (n := s * 10000) (by omega) (by omega)]; exact w64_id (by omega) (by omega)
    have h88 := fun H => s88 n H o d (s * 10000 + x) h1
    (refine call_pure e50 (by rfl) ?_; simp only [c50, heap0, go_sem, Int.reduceToNat, Nat.reduceAdd, Nat.reduceBEq, Nat.reduceLeDiff, Nat.reduceLT, Nat.reduceMul, Nat.reduceSub, Int.reduceEq, Int.reduceLT, Int.reduceLE, Int.reduceNeg, h69, e1, e4, hw, h88])
theorem s13 (n : Nat) (H : Heap) (o d s : Int) : call1 T (n + 5) (.fn 13) [.agg [.int .i64 o, .int .i64 d], .int .i64 s] H = some (.tup [.int .i64 (snV o d s), .int .i64 (snE o d s)], H) := by
  have h50 := fun H => s50 n H o d s 2120 (by omega) (by omega)
  (refine call_pure e13 (by rfl) ?_; simp only [c13, heap0, go_sem, Int.reduceToNat, Nat.reduceAdd, Nat.reduceBEq, Nat.reduceLeDiff, Nat.reduceLT, Nat.reduceMul, Nat.reduceSub, Int.reduceEq, Int.reduceLT, Int.reduceLE, Int.reduceNeg, h50, snV, snE])
theorem s54 (n : Nat) (H : Heap) (o d s : Int) : call1 T (n + 5) (.fn 54) [.agg [.int .i64 o, .int .i64 d], .int .i64 s] H = some (.tup [.int .i64 (wnA o d s), .int .i64 (wnB o d s), .int .i64 (wnE o d s)], H) := by
  have h50 := fun H => s50 n H o d s 3221 (by omega) (by omega)
  have h51 := fun H => s50 n H o d s 1020 (by omega) (by omega)
  unfold wnA wnB wnE
  cases hb : slB o d s with
  | false =>
    rw [hb] at h50 h51
    have h0 := slB_no hb
    (refine call_pure e54 (by rfl) ?_; simp only [c54, heap0, go_sem, Int.reduceToNat, Nat.reduceAdd, Nat.reduceBEq, Nat.reduceLeDiff, Nat.reduceLT, Nat.reduceMul, Nat.reduceSub, Int.reduceEq, Int.reduceLT, Int.reduceLE, Int.reduceNeg, h50, h51, h0])
  | true =>
    rw [hb] at h50 h51
    cases hc : decide (s * 10000 + 3221 ≤ shI o d 1099511627776) with
    | true =>
      have hE2 : rE o d (s * 10000 + 3221) = 0 := by unfold rE; rw [decide_eq_false (by rw [decide_eq_true_eq] at hc; omega)]; rfl
      rw [hE2] at h50
      (refine call_pure e54 (by rfl) ?_; simp only [c54, heap0, go_sem, Int.reduceToNat, Nat.reduceAdd, Nat.reduceBEq, Nat.reduceLeDiff, Nat.reduceLT, Nat.reduceMul, Nat.reduceSub, Int.reduceEq, Int.reduceLT, Int.reduceLE, Int.reduceNeg, h50, h51, hE2])
    | false =>
      have hE2 : rE o d (s * 10000 + 3221) = 15 := by unfold rE; rw [decide_eq_true (by rw [decide_eq_false_iff_not] at hc; omega)]; rfl
      rw [hE2] at h50
      (refine call_pure e54 (by rfl) ?_; simp only [c54, heap0, go_sem, Int.reduceToNat, Nat.reduceAdd, Nat.reduceBEq, Nat.reduceLeDiff, Nat.reduceLT, Nat.reduceMul, Nat.reduceSub, Int.reduceEq, Int.reduceLT, Int.reduceLE, Int.reduceNeg, h50, h51, hE2])
end Go.Sh
namespace Go.Sh
set_option linter.unusedSectionVars false
set_option linter.unnecessarySimpa false
set_option linter.unusedVariables false
set_option linter.unusedSimpArgs false
set_option maxRecDepth 100000
set_option maxHeartbeats 4000000
namespace G
abbrev pt (a b : Int) : SV := .agg [.int .i64 a, .int .i64 b]
abbrev wl (a b c d f : Int) : SV := .agg [.int .i64 a, .int .i64 b, .int .i64 c, .int .i64 d, .int .i64 f]
def cmpI (a b : Int) : Int := if a < b then -1 else if b < a then 1 else 0
def turnI (a b c d x y : Int) : Int := cmpI (w64 (w64 (c - a) * w64 (y - b))) (w64 (w64 (d - b) * w64 (x - a)))
def withinI (p q a b c d : Int) : Bool := decide (min a c ≤ p) && decide (p ≤ max a c) && decide (min b d ≤ q) && decide (q ≤ max b d)
def onI (p q a b c d : Int) : Bool := (decide (p = a) && decide (q = b)) || (decide (p = c) && decide (q = d)) || (decide (turnI a b c d p q = 0) && withinI p q a b c d)
def crossI (a b c d x y z t : Int) : Bool := onI x y a b c d || onI z t a b c d || onI a b x y z t || onI c d x y z t ||
  (decide (w64 (turnI a b c d x y * turnI a b c d z t) < 0) && decide (w64 (turnI x y z t a b * turnI x y z t c d) < 0))
theorem s155 (n id : Nat) (H : Heap) (L : List (List SV)) (fl : Bool) (p : List SV → Bool) (hr : ∀ r ∈ L, r.length = 2) (hm : L.length ≤ maxLen)
    (hc : ∀ r ∈ L, ∀ H, call1 T n (.fn id) [.agg r] H = some (.bool (p r), H)) : call1 T (n + 1) (.fn 155) [.lst 2 L fl, .fn id []] H = some (.int .i64 (idx1 p L), H) := by
  refine call_pure e155 (by rfl) ?_
  simp only [c155, heap0, go_sem, Nat.reduceAdd, Nat.reduceBEq]
  refine loop_rule (fun i => ([(0, .lst 2 L fl), (1, .fn id []), (7, .int .i64 L.length), (8, .int .i64 i)], ⟨[], [], 0⟩)) (fun i => ∀ (j : Nat) r, j < i → L[j]? = some r → p r = false) L.length ?_ (fun j r h => by omega) ?_
  · simp only [go_sem, Nat.reduceAdd, Nat.reduceBEq, Nat.reduceLeDiff] <;> rfl
  · intro i hi hP
    have hm : maxLen = maxLen := rfl
    rcases Nat.lt_or_ge i L.length with hlt | hge
    · obtain ⟨r, hr'⟩ : ∃ r, L[i]? = some r := ⟨L[i], List.getElem?_eq_getElem hlt⟩
      have hmem := List.mem_of_getElem? hr'
      have h1 := hr _ hmem
      have ht : List.take 2 r = r := List.take_of_length_le (by omega)
      have hw : w64 ((i : Int) + 1) = ((i + 1 : Nat) : Int) := by
        rw [w64_id] <;> simp [maxLen] at * <;> omega
      cases hp : p r with
      | true =>
        have hx := idx1_at hr' hp hP
        simp only [go_sem, Nat.reduceAdd, Nat.reduceBEq, Nat.reduceLeDiff, hlt, hr', hc r hmem, hw, h1, ht, hp, hx]
      | false =>
        simp only [go_sem, Nat.reduceAdd, Nat.reduceBEq, Nat.reduceLeDiff, hlt, hr', hc r hmem, hw, h1, ht, hp]
        refine ⟨trivial, trivial, fun j r' hj hr2 => ?_⟩
        rcases Nat.lt_or_ge j i with hlt2 | hge2
        · exact hP j r' hlt2 hr2
        · have : j = i := by omega
          subst this
          rw [hr'] at hr2
          cases hr2
          exact hp
    · have hlt : ¬ i < L.length := by omega
      have hx : idx1 p L = -1 := idx1_none (fun j a hj => hP j a (by have := (List.getElem?_eq_some_iff.1 hj).1; omega) hj)
      simp only [go_sem, Nat.reduceAdd, Nat.reduceBEq, Nat.reduceLeDiff, hlt, hx]
theorem s156 (n id : Nat) (H : Heap) (L : List (List SV)) (fl : Bool) (p : List SV → Bool) (hr : ∀ r ∈ L, ∃ x, r = [x]) (hm : L.length ≤ maxLen)
    (hc : ∀ r ∈ L, ∀ H, call1 T n (.fn id) [r.headD .undef] H = some (.bool (p r), H)) : call1 T (n + 1) (.fn 156) [.lst 1 L fl, .fn id []] H = some (.int .i64 (idx1 p L), H) := by
  refine call_pure e156 (by rfl) ?_
  simp only [c156, heap0, go_sem, Nat.reduceAdd, Nat.reduceBEq]
  refine loop_rule (fun i => ([(0, .lst 1 L fl), (1, .fn id []), (7, .int .i64 L.length), (8, .int .i64 i)], ⟨[], [], 0⟩)) (fun i => ∀ (j : Nat) r, j < i → L[j]? = some r → p r = false) L.length ?_ (fun j r h => by omega) ?_
  · simp only [go_sem, Nat.reduceAdd, Nat.reduceBEq, Nat.reduceLeDiff] <;> rfl
  · intro i hi hP
    have hm : maxLen = maxLen := rfl
    rcases Nat.lt_or_ge i L.length with hlt | hge
    · obtain ⟨r, hr'⟩ : ∃ r, L[i]? = some r := ⟨L[i], List.getElem?_eq_getElem hlt⟩
      have hmem := List.mem_of_getElem? hr'
      have h1 := hr _ hmem
      obtain ⟨x, rfl⟩ := h1
      have hcr := hc _ hmem
      simp only [List.headD_cons] at hcr
      have hw : w64 ((i : Int) + 1) = ((i + 1 : Nat) : Int) := by
        rw [w64_id] <;> simp [maxLen] at * <;> omega
      cases hp : p [x] with
      | true =>
        have hx := idx1_at hr' hp hP
        simp only [go_sem, Nat.reduceAdd, Nat.reduceBEq, Nat.reduceLeDiff, hlt, hr', hcr, hw, hp, hx]
      | false =>
        simp only [go_sem, Nat.reduceAdd, Nat.reduceBEq, Nat.reduceLeDiff, hlt, hr', hcr, hw, hp]
        refine ⟨trivial, trivial, fun j r' hj hr2 => ?_⟩
        rcases Nat.lt_or_ge j i with hlt2 | hge2
        · exact hP j r' hlt2 hr2
        · have : j = i := by omega
          subst this
          rw [hr'] at hr2
          cases hr2
          exact hp
    · have hlt : ¬ i < L.length := by omega
      have hx : idx1 p L = -1 := idx1_none (fun j a hj => hP j a (by have := (List.getElem?_eq_some_iff.1 hj).1; omega) hj)
      simp only [go_sem, Nat.reduceAdd, Nat.reduceBEq, Nat.reduceLeDiff, hlt, hx]
def ptsS (L : List (Int × Int)) : List (List SV) := L.map fun p => [.int .i64 p.1, .int .i64 p.2]
theorem ptsS_len {L : List (Int × Int)} : ∀ r ∈ ptsS L, r.length = 2 := by
  intro r hr; simp only [ptsS, List.mem_map] at hr; obtain ⟨p, _, rfl⟩ := hr; rfl
theorem ptsS_any {p : List SV → Bool} {q : Int × Int → Bool} (h : ∀ a b, p [.int .i64 a, .int .i64 b] = q (a, b)) (L : List (Int × Int)) : (ptsS L).any p = L.any q := by
  induction L with
  | nil => rfl
  | cons a l ih => simp only [ptsS, List.map_cons, List.any_cons, h] at *; rw [ih]
theorem s108 (n id : Nat) (H : Heap) (L : List (List SV)) (fl : Bool) (p : List SV → Bool) (hr : ∀ r ∈ L, r.length = 2) (hm : L.length ≤ maxLen)
    (hc : ∀ r ∈ L, ∀ H, call1 T n (.fn id) [.agg r] H = some (.bool (p r), H)) : call1 T (n + 2) (.fn 108) [.lst 2 L fl, .fn id []] H = some (.bool (L.any p), H) := by
  refine call_pure e108 (by rfl) ?_
  simp only [c108, heap0, go_sem, Nat.reduceAdd, Nat.reduceBEq, s155 n id _ L fl p hr hm hc, idx1_any]
theorem s109 (n id : Nat) (H : Heap) (L : List (List SV)) (fl : Bool) (p : List SV → Bool) (hr : ∀ r ∈ L, ∃ x, r = [x]) (hm : L.length ≤ maxLen)
    (hc : ∀ r ∈ L, ∀ H, call1 T n (.fn id) [r.headD .undef] H = some (.bool (p r), H)) : call1 T (n + 2) (.fn 109) [.lst 1 L fl, .fn id []] H = some (.bool (L.any p), H) := by
  refine call_pure e109 (by rfl) ?_
  simp only [c109, heap0, go_sem, Nat.reduceAdd, Nat.reduceBEq, s156 n id _ L fl p hr hm hc, idx1_any]
structure Wl where
  a : Int
  b : Int
  c : Int
  d : Int
  f : Int
abbrev wlC (w : Wl) : List SV := [.int .i64 w.a, .int .i64 w.b, .int .i64 w.c, .int .i64 w.d, .int .i64 w.f]
def wlsS (W : List Wl) : List (List SV) := W.map wlC
def intsS (P : List Int) : List (List SV) := P.map fun p => [.int .i64 p]
@[go_sem] theorem wlsS_len {W : List Wl} : (wlsS W).length = W.length := by simp [wlsS]
@[go_sem] theorem intsS_len {W : List Int} : (intsS W).length = W.length := by simp [intsS]
@[go_sem] theorem ptsS_len' {W : List (Int × Int)} : (ptsS W).length = W.length := by simp [ptsS]
abbrev st (N : List (Int × Int)) (P : List Int) (W : List Wl) (f1 f2 f3 : Bool) (ex no th : Int) : SV := .agg [.lst 2 (ptsS N) f1, .lst 1 (intsS P) f2, .lst 5 (wlsS W) f3, .int .i64 ex, .int .i64 no, .int .i64 th]
def pointI (a b : Int) : Bool := decide (0 ≤ a) && decide (a ≤ 10000) && decide (0 ≤ b) && decide (b ≤ 10000)
theorem s107 (n : Nat) (H : Heap) (a b : Int) : call1 T (n + 1) (.fn 107) [pt a b] H = some (.bool (pointI a b), H) := by
  refine call_pure e107 (by rfl) ?_
  simp only [c107, heap0, go_sem, Int.reduceToNat, Nat.reduceAdd, Nat.reduceBEq, Nat.reduceLeDiff, Nat.reduceLT, Nat.reduceMul, Nat.reduceSub, Int.reduceEq, Int.reduceLT, Int.reduceLE, Int.reduceNeg]
  repeat' (with_reducible refine fork_split (fun _ => ?_) (fun _ => ?_) <;> simp only [*, go_sem, Int.reduceToNat, Nat.reduceAdd, Nat.reduceBEq, Nat.reduceLeDiff, Nat.reduceLT, Nat.reduceMul, Nat.reduceSub, Int.reduceEq, Int.reduceLT, Int.reduceLE, Int.reduceNeg])
  all_goals (simp only [decide_eq_true_eq, decide_eq_false_iff_not] at *; simp only [pointI]; congr 2; rw [Bool.eq_iff_iff]; simp only [Bool.and_eq_true, decide_eq_true_eq, Bool.false_eq_true, false_iff]; omega)
def powI (n : Int) : Bool := decide (0 ≤ n) && decide (n ≤ 68719476736)
theorem s111 (n : Nat) (H : Heap) (a : Int) : call1 T (n + 1) (.fn 111) [.int .i64 a] H = some (.bool (powI a), H) := by
  refine call_pure e111 (by rfl) ?_
  simp only [c111, heap0, go_sem, Int.reduceToNat, Nat.reduceAdd, Nat.reduceBEq, Nat.reduceLeDiff, Nat.reduceLT, Nat.reduceMul, Nat.reduceSub, Int.reduceEq, Int.reduceLT, Int.reduceLE, Int.reduceNeg]
  repeat' (with_reducible refine fork_split (fun _ => ?_) (fun _ => ?_) <;> simp only [*, go_sem, Int.reduceToNat, Nat.reduceAdd, Nat.reduceBEq, Nat.reduceLeDiff, Nat.reduceLT, Nat.reduceMul, Nat.reduceSub, Int.reduceEq, Int.reduceLT, Int.reduceLE, Int.reduceNeg])
  all_goals (simp only [powI]; grind)
theorem s130 (n : Nat) (H : Heap) (a : Int) : call1 T (n + 1) (.fn 130) [.int .i64 a] H = some (.bool (powI a), H) := by
  refine call_pure e130 (by rfl) ?_
  simp only [c130, heap0, go_sem, Int.reduceToNat, Nat.reduceAdd, Nat.reduceBEq, Nat.reduceLeDiff, Nat.reduceLT, Nat.reduceMul, Nat.reduceSub, Int.reduceEq, Int.reduceLT, Int.reduceLE, Int.reduceNeg]
  repeat' (with_reducible refine fork_split (fun _ => ?_) (fun _ => ?_) <;> simp only [*, go_sem, Int.reduceToNat, Nat.reduceAdd, Nat.reduceBEq, Nat.reduceLeDiff, Nat.reduceLT, Nat.reduceMul, Nat.reduceSub, Int.reduceEq, Int.reduceLT, Int.reduceLE, Int.reduceNeg])
  all_goals (simp only [powI]; grind)
theorem s106 (n : Nat) (H : Heap) (a b : Int) : call1 T (n + 2) (.fn 106) [pt a b] H = some (.bool (!pointI a b), H) := by
  refine call_pure e106 (by rfl) ?_
  simp only [c106, heap0, go_sem, Int.reduceToNat, Nat.reduceAdd, Nat.reduceBEq, Nat.reduceLeDiff, Nat.reduceLT, Nat.reduceMul, Nat.reduceSub, Int.reduceEq, Int.reduceLT, Int.reduceLE, Int.reduceNeg, s107]
theorem s110 (n : Nat) (H : Heap) (a : Int) : call1 T (n + 2) (.fn 110) [.int .i64 a] H = some (.bool (!powI a), H) := by
  refine call_pure e110 (by rfl) ?_
  simp only [c110, heap0, go_sem, Int.reduceToNat, Nat.reduceAdd, Nat.reduceBEq, Nat.reduceLeDiff, Nat.reduceLT, Nat.reduceMul, Nat.reduceSub, Int.reduceEq, Int.reduceLT, Int.reduceLE, Int.reduceNeg, s111]
theorem s129 (n : Nat) (H : Heap) (a b : Int) : call1 T (n + 1) (.fn 129) [pt a b] H = some (.bool (pointI a b), H) := by
  refine call_pure e129 (by rfl) ?_
  simp only [c129, heap0, go_sem, Int.reduceToNat, Nat.reduceAdd, Nat.reduceBEq, Nat.reduceLeDiff, Nat.reduceLT, Nat.reduceMul, Nat.reduceSub, Int.reduceEq, Int.reduceLT, Int.reduceLE, Int.reduceNeg]
  repeat' (with_reducible refine fork_split (fun _ => ?_) (fun _ => ?_) <;> simp only [*, go_sem, Int.reduceToNat, Nat.reduceAdd, Nat.reduceBEq, Nat.reduceLeDiff, Nat.reduceLT, Nat.reduceMul, Nat.reduceSub, Int.reduceEq, Int.reduceLT, Int.reduceLE, Int.reduceNeg])
  all_goals (simp only [pointI]; grind)
def rightI (t m : Int) : Bool := decide (1000 ≤ t) && decide (t ≤ 100000) && decide (1 ≤ m) && decide (m ≤ 68719476736)
theorem s128 (n : Nat) (H : Heap) (t m : Int) : call1 T (n + 1) (.fn 128) [.int .i64 t, .int .i64 m] H = some (.bool (rightI t m), H) := by
  refine call_pure e128 (by rfl) ?_
  simp only [c128, heap0, go_sem, Int.reduceToNat, Nat.reduceAdd, Nat.reduceBEq, Nat.reduceLeDiff, Nat.reduceLT, Nat.reduceMul, Nat.reduceSub, Int.reduceEq, Int.reduceLT, Int.reduceLE, Int.reduceNeg]
  repeat' (with_reducible refine fork_split (fun _ => ?_) (fun _ => ?_) <;> simp only [*, go_sem, Int.reduceToNat, Nat.reduceAdd, Nat.reduceBEq, Nat.reduceLeDiff, Nat.reduceLT, Nat.reduceMul, Nat.reduceSub, Int.reduceEq, Int.reduceLT, Int.reduceLE, Int.reduceNeg])
  all_goals (simp only [rightI]; grind)
def scOk (p f : Int) : Bool := powI p && decide (0 ≤ f) && decide (f ≤ 1000)
def scV (p f : Int) : Int := if scOk p f = true then w64 ((w64 (p * f)).tdiv 1000) else 0
def fewI (N : List (Int × Int)) (P : List Int) (W : List Wl) : Bool := decide (N.length ≤ 40) && decide (P.length ≤ 40) && decide (W.length ≤ 40)
theorem s86 (n : Nat) (H : Heap) (N P W f1 f2 f3 ex no th) : call1 T (n + 1) (.fn 86) [st N P W f1 f2 f3 ex no th] H = some (.bool (fewI N P W), H) := by
  refine call_pure e86 (by rfl) ?_
  simp only [c86, heap0, go_sem, Int.reduceToNat, Nat.reduceAdd, Nat.reduceBEq, Nat.reduceLeDiff, Nat.reduceLT, Nat.reduceMul, Nat.reduceSub, Int.reduceEq, Int.reduceLT, Int.reduceLE, Int.reduceNeg, wlsS_len, intsS_len, ptsS_len']
  repeat' (with_reducible refine fork_split (fun _ => ?_) (fun _ => ?_) <;> simp only [*, go_sem, Int.reduceToNat, Nat.reduceAdd, Nat.reduceBEq, Nat.reduceLeDiff, Nat.reduceLT, Nat.reduceMul, Nat.reduceSub, Int.reduceEq, Int.reduceLT, Int.reduceLE, Int.reduceNeg])
  all_goals (simp only [fewI]; refine congrArg some (congrArg SV.bool ?_); rw [Bool.eq_iff_iff]; grind)
def sqI (a b c d : Int) : Int := w64 (w64 (w64 (a - c) * w64 (a - c)) + w64 (w64 (b - d) * w64 (b - d)))
def mI (a b c d : Int) : Int := max (sqI a b c d) 100
def startI (ex a b p c d : Int) : Int := let p1 := w64 ((w64 (p * 100)).tdiv (mI a b c d)); if ex = 4 then w64 ((w64 (p1 * 100)).tdiv (mI a b c d)) else p1
@[go_sem] theorem wlsS_get (W : List Wl) (i : Nat) : (wlsS W)[i]? = (W[i]?).map wlC := by simp [wlsS]
@[go_sem] theorem intsS_get (W : List Int) (i : Nat) : (intsS W)[i]? = (W[i]?).map (fun p => [.int .i64 p]) := by simp [intsS]
@[go_sem] theorem ptsS_get (W : List (Int × Int)) (i : Nat) : (ptsS W)[i]? = (W[i]?).map (fun p => [.int .i64 p.1, .int .i64 p.2]) := by simp [ptsS]
theorem w64_succ {i n : Nat} (h : i < n) (hn : n ≤ maxLen) : w64 ((i : Int) + 1) = ((i + 1 : Nat) : Int) := by
  simp only [maxLen] at hn
  rw [w64_id (by omega) (by omega)]; omega
def stepI (a b c d p : Int) (w : Wl) : Int := if crossI a b c d w.a w.b w.c w.d = true then scV p w.f else p
theorem onSome_of {A R : Type} {v : Option A} {f : A → Option R} {t : Tok f} {r : Option R} (o : A) (h : v = some o) (k : f o = r) : onSome v f t = r := by rw [h]; exact k
def atI (W : List Wl) (ex a b p c d : Int) : Int := W.foldl (stepI a b c d) (startI ex a b p c d)
def badW (w : Wl) : Bool := !pointI w.a w.b || !pointI w.c w.d || decide (w.f < 0) || decide (1000 < w.f)
theorem s113 (n : Nat) (X0 : SBlk) (w : Wl) : call1 T (n + 3) (.fn 113) [.agg (wlC w), .ptr 1 0 0 0] ⟨[X0, .box [.fn 106 []]], [], 0⟩ = some (.bool (badW w), ⟨[X0, .box [.fn 106 []]], [], 0⟩) := by
  refine call_in e113 (by rfl) ?_
  simp only [c113, go_sem, Int.reduceToNat, Nat.reduceAdd, Nat.reduceBEq, Nat.reduceLeDiff, Nat.reduceLT, Nat.reduceMul, Nat.reduceSub, Int.reduceEq, Int.reduceLT, Int.reduceLE, Int.reduceNeg, s106]
  repeat' (with_reducible refine fork_split (fun _ => ?_) (fun _ => ?_) <;> simp only [*, go_sem, Int.reduceToNat, Nat.reduceAdd, Nat.reduceBEq, Nat.reduceLeDiff, Nat.reduceLT, Nat.reduceMul, Nat.reduceSub, Int.reduceEq, Int.reduceLT, Int.reduceLE, Int.reduceNeg, s106])
  all_goals (simp only [badW]; grind)
theorem s67c (n id : Nat) (X0 X1 : SBlk) (L : List (List SV)) (fl : Bool) (p : List SV → Bool) (hr : ∀ r ∈ L, r.length = 5) (hm : L.length ≤ maxLen)
    (hc : ∀ r ∈ L, call1 T n (.fn id) [.agg r, .ptr 1 0 0 0] ⟨[X0, X1], [], 0⟩ = some (.bool (p r), ⟨[X0, X1], [], 0⟩)) :
    call1 T (n + 1) (.fn 157) [.lst 5 L fl, .fn id [.ptr 1 0 0 0]] ⟨[X0, X1], [], 0⟩ = some (.int .i64 (idx1 p L), ⟨[X0, X1], [], 0⟩) := by
  refine call_in e157 (by rfl) ?_
  simp only [c157, go_sem, Int.reduceToNat, Nat.reduceAdd, Nat.reduceBEq, Nat.reduceLeDiff, Nat.reduceLT, Nat.reduceMul, Nat.reduceSub, Int.reduceEq, Int.reduceLT, Int.reduceLE, Int.reduceNeg]
  refine loop_rule (fun i => ([(0, .lst 5 L fl), (1, .fn id [.ptr 1 0 0 0]), (7, .int .i64 L.length), (8, .int .i64 i)], ⟨[X0, X1], [], 0⟩)) (fun i => ∀ (j : Nat) r, j < i → L[j]? = some r → p r = false) L.length ?_ (fun j r h => by omega) ?_
  · simp only [go_sem, Int.reduceToNat, Nat.reduceAdd, Nat.reduceBEq, Nat.reduceLeDiff, Nat.reduceLT, Nat.reduceMul, Nat.reduceSub, Int.reduceEq, Int.reduceLT, Int.reduceLE, Int.reduceNeg]
    rfl
  · intro i hi hP
    rcases Nat.lt_or_ge i L.length with hlt | hge
    · obtain ⟨r, hr'⟩ : ∃ r, L[i]? = some r := ⟨L[i], List.getElem?_eq_getElem hlt⟩
      have hmem := List.mem_of_getElem? hr'
      have h1 := hr _ hmem
      have ht : List.take 5 r = r := List.take_of_length_le (by omega)
      have hw := w64_succ hlt hm
      cases hp : p r with
      | true =>
        have hx := idx1_at hr' hp hP
        simp only [go_sem, Int.reduceToNat, Nat.reduceAdd, Nat.reduceBEq, Nat.reduceLeDiff, Nat.reduceLT, Nat.reduceMul, Nat.reduceSub, Int.reduceEq, Int.reduceLT, Int.reduceLE, Int.reduceNeg, hlt, hr', hc r hmem, hw, h1, ht, hp, hx]
      | false =>
        simp only [go_sem, Int.reduceToNat, Nat.reduceAdd, Nat.reduceBEq, Nat.reduceLeDiff, Nat.reduceLT, Nat.reduceMul, Nat.reduceSub, Int.reduceEq, Int.reduceLT, Int.reduceLE, Int.reduceNeg, hlt, hr', hc r hmem, hw, h1, ht, hp]
        refine ⟨trivial, rfl, fun j r' hj hr2 => ?_⟩
        rcases Nat.lt_or_ge j i with hlt2 | hge2
        · exact hP j r' hlt2 hr2
        · have : j = i := by omega
          subst this
          rw [hr'] at hr2
          cases hr2
          exact hp
    · have hlt : ¬ i < L.length := by omega
      have hx : idx1 p L = -1 := idx1_none (fun j a hj => hP j a (by have := (List.getElem?_eq_some_iff.1 hj).1; omega) hj)
      simp only [go_sem, Int.reduceToNat, Nat.reduceAdd, Nat.reduceBEq, Nat.reduceLeDiff, Nat.reduceLT, Nat.reduceMul, Nat.reduceSub, Int.reduceEq, Int.reduceLT, Int.reduceLE, Int.reduceNeg, hlt, hx]
theorem s50c (n id : Nat) (X0 X1 : SBlk) (L : List (List SV)) (fl : Bool) (p : List SV → Bool) (hr : ∀ r ∈ L, r.length = 5) (hm : L.length ≤ maxLen)
    (hc : ∀ r ∈ L, call1 T n (.fn id) [.agg r, .ptr 1 0 0 0] ⟨[X0, X1], [], 0⟩ = some (.bool (p r), ⟨[X0, X1], [], 0⟩)) :
    call1 T (n + 2) (.fn 112) [.lst 5 L fl, .fn id [.ptr 1 0 0 0]] ⟨[X0, X1], [], 0⟩ = some (.bool (L.any p), ⟨[X0, X1], [], 0⟩) := by
  refine call_in e112 (by rfl) ?_
  simp only [c112, go_sem, Int.reduceToNat, Nat.reduceAdd, Nat.reduceBEq, Nat.reduceLeDiff, Nat.reduceLT, Nat.reduceMul, Nat.reduceSub, Int.reduceEq, Int.reduceLT, Int.reduceLE, Int.reduceNeg, s67c n id X0 X1 L fl p hr hm hc, idx1_any]
def ofW (r : List SV) : Wl := match r with | [.int _ a, .int _ b, .int _ c, .int _ d, .int _ f] => ⟨a, b, c, d, f⟩ | _ => ⟨0, 0, 0, 0, 0⟩
theorem any_map' {A B : Type} (f : A → B) (p : B → Bool) (q : A → Bool) (h : ∀ a, p (f a) = q a) (l : List A) : (l.map f).any p = l.any q := by
  induction l with
  | nil => rfl
  | cons a l ih => simp only [List.map_cons, List.any_cons, h, ih]
def pt1 (r : List SV) : Bool := match r with | [.int _ a, .int _ b] => !pointI a b | _ => false
def pw1 (r : List SV) : Bool := match r with | [.int _ a] => !powI a | _ => false
def okB (n p w : Nat) (A B C : Bool) (ex no th : Int) : Bool := decide (2 ≤ n) && decide (n ≤ 32) && !A && decide (p = n) && !B && decide (w ≤ 32) && !C && (decide (ex = 2) || decide (ex = 4)) && rightI th no
def okI (N : List (Int × Int)) (P : List Int) (W : List Wl) (ex no th : Int) : Bool := okB N.length P.length W.length (N.any (fun p => !pointI p.1 p.2)) (P.any (fun p => !powI p)) (W.any badW) ex no th
def chkI (N : List (Int × Int)) (P : List Int) (W : List Wl) (ex no th : Int) : Int := bif okI N P W ex no th then 0 else 1
theorem s61 (n : Nat) (H : Heap) (N P W f1 f2 f3 ex no th) (hN : N.length ≤ maxLen) (hP : P.length ≤ maxLen) (hW : W.length ≤ maxLen) : call1 T (n + 6) (.fn 61) [st N P W f1 f2 f3 ex no th] H = some (.int .i64 (chkI N P W ex no th), H) := by
  refine call_pure e61 (by rfl) ?_
  have h38 := fun H => s108 (n + 3) (id := 106) H (ptsS N) f1 pt1 ptsS_len (by simpa [ptsS] using hN) (fun r hr H => by
    simp only [ptsS, List.mem_map] at hr; obtain ⟨p, _, rfl⟩ := hr; exact s106 (n + 1) H p.1 p.2)
  have h48 := fun H => s109 (n + 3) (id := 110) H (intsS P) f2 pw1 (fun r hr => by simp only [intsS, List.mem_map] at hr; obtain ⟨p, _, rfl⟩ := hr; exact ⟨_, rfl⟩) (by simpa [intsS] using hP) (fun r hr H => by
    simp only [intsS, List.mem_map] at hr; obtain ⟨p, _, rfl⟩ := hr; exact s110 (n + 1) H p)
  have h50 := fun X0 => s50c (n + 3) (id := 113) X0 (.box [.fn 106 []]) (wlsS W) f3 (fun r => badW (ofW r)) (fun r hr => by simp only [wlsS, List.mem_map] at hr; obtain ⟨p, _, rfl⟩ := hr; rfl) (by simpa [wlsS] using hW) (fun r hr => by
    simp only [wlsS, List.mem_map] at hr; obtain ⟨w, _, rfl⟩ := hr; exact s113 n X0 w)
  have a38 : (ptsS N).any pt1 = N.any (fun p => !pointI p.1 p.2) := any_map' _ _ _ (fun _ => rfl) N
  have a48 : (intsS P).any pw1 = P.any (fun p => !powI p) := any_map' _ _ _ (fun _ => rfl) P
  have a50 : (wlsS W).any (fun r => badW (ofW r)) = W.any badW := any_map' _ _ _ (fun _ => rfl) W
  rw [a38] at h38
  rw [a48] at h48
  simp only [a50] at h50
  simp only [c61, heap0, go_sem, Int.reduceToNat, Nat.reduceAdd, Nat.reduceBEq, Nat.reduceLeDiff, Nat.reduceLT, Nat.reduceMul, Nat.reduceSub, Int.reduceEq, Int.reduceLT, Int.reduceLE, Int.reduceNeg, h38]
  repeat' (with_reducible refine fork_split (fun _ => ?_) (fun _ => ?_) <;> simp only [*, go_sem, Int.reduceToNat, Nat.reduceAdd, Nat.reduceBEq, Nat.reduceLeDiff, Nat.reduceLT, Nat.reduceMul, Nat.reduceSub, Int.reduceEq, Int.reduceLT, Int.reduceLE, Int.reduceNeg, h38, h48, h50])
  all_goals
    clear h38 h48 h50 a38 a48 a50
    refine congrArg some (congrArg (SV.int .i64) ?_)
    simp only [chkI, okI]
    generalize (N.any fun p => !pointI p.fst p.snd) = A at *
    generalize (P.any fun p => !powI p) = B at *
    generalize W.any badW = C at *
    generalize N.length = ln at *
    generalize P.length = lp at *
    generalize W.length = lw at *
    generalize hq : okB ln lp lw A B C ex no th = q
    simp only [okB, rightI] at hq
    cases q <;> simp only [cond_true, cond_false] <;> grind
theorem any_at {A : Type} {q : A → Bool} {l : List A} {i : Nat} {a : A} (h : l[i]? = some a) (hp : q a = true) : l.any q = true := List.any_eq_true.2 ⟨a, List.mem_of_getElem? h, hp⟩
theorem any_no {A : Type} {q : A → Bool} {l : List A} (h : ∀ (i : Nat) a, l[i]? = some a → q a = false) : l.any q = false := by
  rw [List.any_eq_false]
  intro a ha
  obtain ⟨i, hi⟩ := List.mem_iff_getElem?.1 ha
  rw [h i a hi]; simp
theorem get_some {A : Type} {l : List A} {i : Nat} (h : i < l.length) : ∃ a, l[i]? = some a := ⟨l[i], List.getElem?_eq_getElem h⟩
theorem chk_no {N : List (Int × Int)} {P : List Int} {W : List Wl} {ex no th : Int} (h : okI N P W ex no th = false) : chkI N P W ex no th = 1 := by simp only [chkI, h, cond_false]
theorem chk_yes {N : List (Int × Int)} {P : List Int} {W : List Wl} {ex no th : Int} (h : okI N P W ex no th = true) : chkI N P W ex no th = 0 := by simp only [chkI, h, cond_true]
theorem ok_badN {N : List (Int × Int)} {P : List Int} {W : List Wl} {ex no th : Int} {i : Nat} {p : Int × Int} (h : N[i]? = some p) (hp : pointI p.1 p.2 = false) : okI N P W ex no th = false := by
  have : (N.any fun p => !pointI p.1 p.2) = true := any_at h (by simp [hp])
  simp only [okI, this, okB, Bool.not_true, Bool.and_false, Bool.false_and]
theorem ok_badP {N : List (Int × Int)} {P : List Int} {W : List Wl} {ex no th : Int} {i : Nat} {p : Int} (h : P[i]? = some p) (hp : powI p = false) : okI N P W ex no th = false := by
  have : (P.any fun p => !powI p) = true := any_at h (by simp [hp])
  simp only [okI, this, okB, Bool.not_true, Bool.and_false, Bool.false_and]
theorem ok_badW {N : List (Int × Int)} {P : List Int} {W : List Wl} {ex no th : Int} {i : Nat} {p : Wl} (h : W[i]? = some p) (hp : badW p = true) : okI N P W ex no th = false := by
  have : W.any badW = true := any_at h hp
  simp only [okI, this, okB, Bool.not_true, Bool.and_false, Bool.false_and]
theorem s75 (n : Nat) (H : Heap) (N P W f1 f2 f3 ex no th) (hW : W.length ≤ maxLen) (hN : N.length ≤ maxLen) : call1 T (n + 6) (.fn 75) [st N P W f1 f2 f3 ex no th] H = some (.int .i64 (chkI N P W ex no th), H) := by
  refine call_pure e75 (by rfl) ?_
  simp only [c75, heap0, go_sem, Int.reduceToNat, Nat.reduceAdd, Nat.reduceBEq, Nat.reduceLeDiff, Nat.reduceLT, Nat.reduceMul, Nat.reduceSub, Int.reduceEq, Int.reduceLT, Int.reduceLE, Int.reduceNeg, s128]
  repeat' (with_reducible refine fork_split (fun _ => ?_) (fun _ => ?_) <;> simp only [*, go_sem, Int.reduceToNat, Nat.reduceAdd, Nat.reduceBEq, Nat.reduceLeDiff, Nat.reduceLT, Nat.reduceMul, Nat.reduceSub, Int.reduceEq, Int.reduceLT, Int.reduceLE, Int.reduceNeg, s128])
  all_goals try (
    with_reducible refine congrArg some (congrArg (SV.int .i64) ?_)
    simp only [chkI, okI]
    generalize (N.any fun p => !pointI p.fst p.snd) = A at *
    generalize (P.any fun p => !powI p) = B at *
    generalize W.any badW = C at *
    generalize N.length = ln at *
    generalize P.length = lp at *
    generalize W.length = lw at *
    generalize hq : okB ln lp lw A B C ex no th = q
    simp only [okB, rightI] at *
    cases q <;> simp only [cond_true, cond_false] <;> grind)
  all_goals
    refine loop_rule (fun i => ([(1, .ptr 0 0 0 0), (3, .int .i64 N.length), (4, .int .i64 i)], ⟨[.box [.lst 2 (ptsS N) f1, .lst 1 (intsS P) f2, .lst 5 (wlsS W) f3, .int .i64 ex, .int .i64 no, .int .i64 th]], [], 0⟩))
      (fun i => ∀ (j : Nat), j < i → (∀ p, N[j]? = some p → pointI p.1 p.2 = true) ∧ (∀ p, P[j]? = some p → powI p = true)) N.length ?_ (fun j h => by omega) ?_
    · simp only [go_sem, Int.reduceToNat, Nat.reduceAdd, Nat.reduceBEq, Nat.reduceLeDiff, Nat.reduceLT, Nat.reduceMul, Nat.reduceSub, Int.reduceEq, Int.reduceLT, Int.reduceLE, Int.reduceNeg]
      rfl
    · intro i hi hI
      have hlen : P.length = N.length := by simp_all; omega
      rcases Nat.lt_or_ge i N.length with hlt | hge
      · obtain ⟨p, hp⟩ := get_some hlt
        obtain ⟨q, hq⟩ := get_some (l := P) (i := i) (by omega)
        have hlt2 : i < P.length := by omega
        have hs := w64_succ hlt hN
        cases h1 : pointI p.1 p.2 with
        | false => simp only [go_sem, Int.reduceToNat, Nat.reduceAdd, Nat.reduceBEq, Nat.reduceLeDiff, Nat.reduceLT, Nat.reduceMul, Nat.reduceSub, Int.reduceEq, Int.reduceLT, Int.reduceLE, Int.reduceNeg, hlt, hp, s129, h1, chk_no (ok_badN hp h1)]
        | true =>
          cases h2 : powI q with
          | false => simp only [go_sem, Int.reduceToNat, Nat.reduceAdd, Nat.reduceBEq, Nat.reduceLeDiff, Nat.reduceLT, Nat.reduceMul, Nat.reduceSub, Int.reduceEq, Int.reduceLT, Int.reduceLE, Int.reduceNeg, hlt, hlt2, hp, hq, s129, s130, h1, h2, chk_no (ok_badP hq h2)]
          | true =>
            simp only [go_sem, Int.reduceToNat, Nat.reduceAdd, Nat.reduceBEq, Nat.reduceLeDiff, Nat.reduceLT, Nat.reduceMul, Nat.reduceSub, Int.reduceEq, Int.reduceLT, Int.reduceLE, Int.reduceNeg, hlt, hlt2, hp, hq, s129, s130, h1, h2, hs]
            refine ⟨trivial, rfl, fun j hj => ?_⟩
            rcases Nat.lt_or_ge j i with h3 | h3
            · exact hI j h3
            · have : j = i := by omega
              subst this
              exact ⟨fun p' hp' => by rw [hp] at hp'; cases hp'; exact h1, fun p' hp' => by rw [hq] at hp'; cases hp'; exact h2⟩
      · have hlt : ¬ i < N.length := by omega
        simp only [go_sem, Int.reduceToNat, Nat.reduceAdd, Nat.reduceBEq, Nat.reduceLeDiff, Nat.reduceLT, Nat.reduceMul, Nat.reduceSub, Int.reduceEq, Int.reduceLT, Int.reduceLE, Int.reduceNeg, hlt]
        refine loop_rule (fun i => ([(1, .ptr 0 0 0 0), (5, .int .i64 i)], ⟨[.box [.lst 2 (ptsS N) f1, .lst 1 (intsS P) f2, .lst 5 (wlsS W) f3, .int .i64 ex, .int .i64 no, .int .i64 th]], [], 0⟩))
          (fun i => ∀ (j : Nat), j < i → (∀ p, W[j]? = some p → badW p = false)) W.length ?_ (fun j h => by omega) ?_
        · simp only [go_sem, Int.reduceToNat, Nat.reduceAdd, Nat.reduceBEq, Nat.reduceLeDiff, Nat.reduceLT, Nat.reduceMul, Nat.reduceSub, Int.reduceEq, Int.reduceLT, Int.reduceLE, Int.reduceNeg]
          rfl
        · intro k hk hK
          rcases Nat.lt_or_ge k W.length with hlt3 | hge3
          · obtain ⟨w, hw⟩ := get_some hlt3
            have hs := w64_succ hlt3 hW
            cases h1 : badW w with
            | true =>
              have hb := h1
              simp only [badW] at hb
              have hch := chk_no (N := N) (P := P) (ex := ex) (no := no) (th := th) (ok_badW hw h1)
              simp only [go_sem, Int.reduceToNat, Nat.reduceAdd, Nat.reduceBEq, Nat.reduceLeDiff, Nat.reduceLT, Nat.reduceMul, Nat.reduceSub, Int.reduceEq, Int.reduceLT, Int.reduceLE, Int.reduceNeg, hlt3, hw, s129, hch]
              repeat' (with_reducible refine post_fork (fun _ => ?_) (fun _ => ?_) <;> simp only [*, go_sem, Int.reduceToNat, Nat.reduceAdd, Nat.reduceBEq, Nat.reduceLeDiff, Nat.reduceLT, Nat.reduceMul, Nat.reduceSub, Int.reduceEq, Int.reduceLT, Int.reduceLE, Int.reduceNeg, s129])
              all_goals (exfalso; simp_all)
            | false =>
              have hb := h1
              simp only [badW, Bool.or_eq_false_iff] at hb
              obtain ⟨⟨⟨b1, b2⟩, b3⟩, b4⟩ := hb
              simp only [go_sem, Int.reduceToNat, Nat.reduceAdd, Nat.reduceBEq, Nat.reduceLeDiff, Nat.reduceLT, Nat.reduceMul, Nat.reduceSub, Int.reduceEq, Int.reduceLT, Int.reduceLE, Int.reduceNeg, hlt3, hw, s129, b1, b2, b3, b4, hs]
              refine ⟨trivial, rfl, fun j hj => ?_⟩
              rcases Nat.lt_or_ge j k with h3 | h3
              · exact hK j h3
              · have : j = k := by omega
                subst this
                exact fun p' hp' => by rw [hw] at hp'; cases hp'; exact h1
          · have hlt3 : ¬ k < W.length := by omega
            have hA : (N.any fun p => !pointI p.1 p.2) = false := any_no (fun j p hj => by
              have := (hI j (by have := (List.getElem?_eq_some_iff.1 hj).1; omega)).1 p hj
              simp [this])
            have hB : (P.any fun p => !powI p) = false := any_no (fun j p hj => by
              have := (hI j (by have := (List.getElem?_eq_some_iff.1 hj).1; omega)).2 p hj
              simp [this])
            have hC : W.any badW = false := any_no (fun j p hj => hK j (by have := (List.getElem?_eq_some_iff.1 hj).1; omega) p hj)
            have hok : okI N P W ex no th = true := by
              simp only [okI, hA, hB, hC, okB, rightI] at *
              simp_all
              omega
            simp only [go_sem, Int.reduceToNat, Nat.reduceAdd, Nat.reduceBEq, Nat.reduceLeDiff, Nat.reduceLT, Nat.reduceMul, Nat.reduceSub, Int.reduceEq, Int.reduceLT, Int.reduceLE, Int.reduceNeg, hlt3, chk_yes hok]
def argI (a b p c d : Int) : Bool := pointI a b && pointI c d && powI p
def AtV (v : Int) (ok arg : Bool) : Int := bif ok && arg then v else 0
def nd (N : List (Int × Int)) (i : Nat) : Int × Int := N.getD i (0, 0)
end G
end Go.Sh
namespace Go.Sh
set_option linter.unusedSectionVars false
set_option linter.unnecessarySimpa false
set_option linter.unusedVariables false
set_option linter.unusedSimpArgs false
set_option maxRecDepth 100000
set_option maxHeartbeats 4000000
namespace U
theorem x63 : T 158 = some (stdIdxF true 7) := e158
theorem x64 : T 160 = some (stdIdxF true 6) := e160
theorem x33 : T 114 = some (stdCF 158) := e114
theorem x36 : T 117 = some (stdCF 160) := e117
def chanB (c : Int) : Bool := decide (0 ≤ c) && decide (c < 16)
theorem s159 (n : Nat) (H : Heap) (c : Int) : call1 T (n + 1) (.fn 159) [.int .i64 c] H = some (.bool (chanB c), H) := by
  refine call_pure e159 (by rfl) ?_
  simp only [c159, heap0, go_sem, Int.reduceToNat, Nat.reduceAdd, Nat.reduceBEq, Nat.reduceLeDiff, Nat.reduceLT, Nat.reduceMul, Nat.reduceSub, Int.reduceEq, Int.reduceLT, Int.reduceLE, Int.reduceNeg]
  repeat' (with_reducible refine fork_split (fun _ => ?_) (fun _ => ?_) <;> simp only [*, go_sem, Int.reduceToNat, Nat.reduceAdd, Nat.reduceBEq, Nat.reduceLeDiff, Nat.reduceLT, Nat.reduceMul, Nat.reduceSub, Int.reduceEq, Int.reduceLT, Int.reduceLE, Int.reduceNeg])
  all_goals (simp only [chanB]; refine congrArg some (congrArg SV.bool ?_); rw [Bool.eq_iff_iff]; grind)
theorem s98 (n : Nat) (H : Heap) (c : Int) : call1 T (n + 1) (.fn 98) [.int .i64 c] H = some (.bool (chanB c), H) := by
  refine call_pure e98 (by rfl) ?_
  simp only [c98, heap0, go_sem, Int.reduceToNat, Nat.reduceAdd, Nat.reduceBEq, Nat.reduceLeDiff, Nat.reduceLT, Nat.reduceMul, Nat.reduceSub, Int.reduceEq, Int.reduceLT, Int.reduceLE, Int.reduceNeg]
  repeat' (with_reducible refine fork_split (fun _ => ?_) (fun _ => ?_) <;> simp only [*, go_sem, Int.reduceToNat, Nat.reduceAdd, Nat.reduceBEq, Nat.reduceLeDiff, Nat.reduceLT, Nat.reduceMul, Nat.reduceSub, Int.reduceEq, Int.reduceLT, Int.reduceLE, Int.reduceNeg])
  all_goals (simp only [chanB]; refine congrArg some (congrArg SV.bool ?_); rw [Bool.eq_iff_iff]; grind)
def nodB (c : Int) : Bool := decide (0 ≤ c) && decide (c < 32)
theorem s162 (n : Nat) (H : Heap) (c : Int) : call1 T (n + 1) (.fn 162) [.int .i64 c] H = some (.bool (nodB c), H) := by
  refine call_pure e162 (by rfl) ?_
  simp only [c162, heap0, go_sem, Int.reduceToNat, Nat.reduceAdd, Nat.reduceBEq, Nat.reduceLeDiff, Nat.reduceLT, Nat.reduceMul, Nat.reduceSub, Int.reduceEq, Int.reduceLT, Int.reduceLE, Int.reduceNeg]
  repeat' (with_reducible refine fork_split (fun _ => ?_) (fun _ => ?_) <;> simp only [*, go_sem, Int.reduceToNat, Nat.reduceAdd, Nat.reduceBEq, Nat.reduceLeDiff, Nat.reduceLT, Nat.reduceMul, Nat.reduceSub, Int.reduceEq, Int.reduceLT, Int.reduceLE, Int.reduceNeg])
  all_goals (simp only [nodB]; refine congrArg some (congrArg SV.bool ?_); rw [Bool.eq_iff_iff]; grind)
def nodB' (c : Int) : Bool := decide (-1 ≤ c) && decide (c < 32)
theorem s161 (n : Nat) (H : Heap) (c : Int) : call1 T (n + 2) (.fn 161) [.int .i64 c] H = some (.bool (nodB' c), H) := by
  refine call_pure e161 (by rfl) ?_
  simp only [c161, heap0, go_sem, Int.reduceToNat, Nat.reduceAdd, Nat.reduceBEq, Nat.reduceLeDiff, Nat.reduceLT, Nat.reduceMul, Nat.reduceSub, Int.reduceEq, Int.reduceLT, Int.reduceLE, Int.reduceNeg, s162]
  repeat' (with_reducible refine fork_split (fun _ => ?_) (fun _ => ?_) <;> simp only [*, go_sem, Int.reduceToNat, Nat.reduceAdd, Nat.reduceBEq, Nat.reduceLeDiff, Nat.reduceLT, Nat.reduceMul, Nat.reduceSub, Int.reduceEq, Int.reduceLT, Int.reduceLE, Int.reduceNeg, s162])
  all_goals (simp only [nodB', nodB]; refine congrArg some (congrArg SV.bool ?_); rw [Bool.eq_iff_iff]; grind)
def ivB (a b : Int) : Bool := decide (0 ≤ a) && decide (a ≤ b) && decide (b ≤ 1099511627776)
theorem s163 (n : Nat) (H : Heap) (a b : Int) : call1 T (n + 1) (.fn 163) [.int .i64 a, .int .i64 b] H = some (.bool (ivB a b), H) := by
  refine call_pure e163 (by rfl) ?_
  simp only [c163, heap0, go_sem, Int.reduceToNat, Nat.reduceAdd, Nat.reduceBEq, Nat.reduceLeDiff, Nat.reduceLT, Nat.reduceMul, Nat.reduceSub, Int.reduceEq, Int.reduceLT, Int.reduceLE, Int.reduceNeg]
  repeat' (with_reducible refine fork_split (fun _ => ?_) (fun _ => ?_) <;> simp only [*, go_sem, Int.reduceToNat, Nat.reduceAdd, Nat.reduceBEq, Nat.reduceLeDiff, Nat.reduceLT, Nat.reduceMul, Nat.reduceSub, Int.reduceEq, Int.reduceLT, Int.reduceLE, Int.reduceNeg])
  all_goals (simp only [ivB]; grind)
theorem s99 (n : Nat) (H : Heap) (a b : Int) : call1 T (n + 1) (.fn 99) [.int .i64 a, .int .i64 b] H = some (.bool (ivB a b), H) := by
  refine call_pure e99 (by rfl) ?_
  simp only [c99, heap0, go_sem, Int.reduceToNat, Nat.reduceAdd, Nat.reduceBEq, Nat.reduceLeDiff, Nat.reduceLT, Nat.reduceMul, Nat.reduceSub, Int.reduceEq, Int.reduceLT, Int.reduceLE, Int.reduceNeg]
  repeat' (with_reducible refine fork_split (fun _ => ?_) (fun _ => ?_) <;> simp only [*, go_sem, Int.reduceToNat, Nat.reduceAdd, Nat.reduceBEq, Nat.reduceLeDiff, Nat.reduceLT, Nat.reduceMul, Nat.reduceSub, Int.reduceEq, Int.reduceLT, Int.reduceLE, Int.reduceNeg])
  all_goals (simp only [ivB]; grind)
abbrev pt (a b : Int) : SV := .agg [.int .i64 a, .int .i64 b]
def pointI (a b : Int) : Bool := decide (0 ≤ a) && decide (a ≤ 10000) && decide (0 ≤ b) && decide (b ≤ 10000)
theorem s129 (n : Nat) (H : Heap) (a b : Int) : call1 T (n + 1) (.fn 129) [pt a b] H = some (.bool (pointI a b), H) := by
  refine call_pure e129 (by rfl) ?_
  simp only [c129, heap0, go_sem, Int.reduceToNat, Nat.reduceAdd, Nat.reduceBEq, Nat.reduceLeDiff, Nat.reduceLT, Nat.reduceMul, Nat.reduceSub, Int.reduceEq, Int.reduceLT, Int.reduceLE, Int.reduceNeg]
  repeat' (with_reducible refine fork_split (fun _ => ?_) (fun _ => ?_) <;> simp only [*, go_sem, Int.reduceToNat, Nat.reduceAdd, Nat.reduceBEq, Nat.reduceLeDiff, Nat.reduceLT, Nat.reduceMul, Nat.reduceSub, Int.reduceEq, Int.reduceLT, Int.reduceLE, Int.reduceNeg])
  all_goals (simp only [pointI]; grind)
def powI (n : Int) : Bool := decide (0 ≤ n) && decide (n ≤ 68719476736)
theorem s130 (n : Nat) (H : Heap) (a : Int) : call1 T (n + 1) (.fn 130) [.int .i64 a] H = some (.bool (powI a), H) := by
  refine call_pure e130 (by rfl) ?_
  simp only [c130, heap0, go_sem, Int.reduceToNat, Nat.reduceAdd, Nat.reduceBEq, Nat.reduceLeDiff, Nat.reduceLT, Nat.reduceMul, Nat.reduceSub, Int.reduceEq, Int.reduceLT, Int.reduceLE, Int.reduceNeg]
  repeat' (with_reducible refine fork_split (fun _ => ?_) (fun _ => ?_) <;> simp only [*, go_sem, Int.reduceToNat, Nat.reduceAdd, Nat.reduceBEq, Nat.reduceLeDiff, Nat.reduceLT, Nat.reduceMul, Nat.reduceSub, Int.reduceEq, Int.reduceLT, Int.reduceLE, Int.reduceNeg])
  all_goals (simp only [powI]; grind)
structure Fd where
  a : Int
  b : Int
  c : Int
  x : Int
  y : Int
  f : Int
abbrev fdC (w : Fd) : List SV := [.int .i64 w.a, .int .i64 w.b, .int .i64 w.c, .int .i64 w.x, .int .i64 w.y, .int .i64 w.f]
def fdB (w : Fd) : Bool := nodB' w.a && nodB' w.b && (decide (w.c = -1) || chanB w.c) && ivB w.x w.y && decide (0 ≤ w.f) && decide (w.f ≤ 1000)
theorem s119 (n : Nat) (H : Heap) (w : Fd) : call1 T (n + 3) (.fn 119) [.agg (fdC w)] H = some (.bool (fdB w), H) := by
  refine call_pure e119 (by rfl) ?_
  simp only [c119, heap0, go_sem, Int.reduceToNat, Nat.reduceAdd, Nat.reduceBEq, Nat.reduceLeDiff, Nat.reduceLT, Nat.reduceMul, Nat.reduceSub, Int.reduceEq, Int.reduceLT, Int.reduceLE, Int.reduceNeg, s161, s159, s163]
  repeat' (with_reducible refine fork_split (fun _ => ?_) (fun _ => ?_) <;> simp only [*, go_sem, Int.reduceToNat, Nat.reduceAdd, Nat.reduceBEq, Nat.reduceLeDiff, Nat.reduceLT, Nat.reduceMul, Nat.reduceSub, Int.reduceEq, Int.reduceLT, Int.reduceLE, Int.reduceNeg, s161, s159, s163])
  all_goals (simp only [fdB]; grind)
theorem s132 (n : Nat) (H : Heap) (w : Fd) : call1 T (n + 2) (.fn 132) [.agg (fdC w)] H = some (.bool (fdB w), H) := by
  refine call_pure e132 (by rfl) ?_
  simp only [c132, heap0, go_sem, Int.reduceToNat, Nat.reduceAdd, Nat.reduceBEq, Nat.reduceLeDiff, Nat.reduceLT, Nat.reduceMul, Nat.reduceSub, Int.reduceEq, Int.reduceLT, Int.reduceLE, Int.reduceNeg, s99]
  repeat' (with_reducible refine fork_split (fun _ => ?_) (fun _ => ?_) <;> simp only [*, go_sem, Int.reduceToNat, Nat.reduceAdd, Nat.reduceBEq, Nat.reduceLeDiff, Nat.reduceLT, Nat.reduceMul, Nat.reduceSub, Int.reduceEq, Int.reduceLT, Int.reduceLE, Int.reduceNeg, s99])
  all_goals (simp only [fdB, nodB', chanB]; refine congrArg some (congrArg SV.bool ?_); rw [Bool.eq_iff_iff]; grind)
theorem s118 (n : Nat) (H : Heap) (w : Fd) : call1 T (n + 4) (.fn 118) [.agg (fdC w)] H = some (.bool (!fdB w), H) := by
  refine call_pure e118 (by rfl) ?_
  simp only [c118, heap0, go_sem, Int.reduceToNat, Nat.reduceAdd, Nat.reduceBEq, Nat.reduceLeDiff, Nat.reduceLT, Nat.reduceMul, Nat.reduceSub, Int.reduceEq, Int.reduceLT, Int.reduceLE, Int.reduceNeg, s119]
structure Src where
  a : Int
  b : Int
  p : Int
  C : List Int
  f : Bool
  per : Int
  fr : Int
  to : Int
abbrev srC (s : Src) : List SV := [.int .i64 s.a, .int .i64 s.b, .int .i64 s.p, .lst 1 (iS s.C) s.f, .int .i64 s.per, .int .i64 s.fr, .int .i64 s.to]
def badAt (C : List Int) (i : Nat) : Bool := match C[i]? with
  | some c => !chanB c || (decide (0 < (i : Int)) && match C[i - 1]? with | some d => decide (c ≤ d) | none => false)
  | none => false
theorem badAt_zero {C : List Int} {i : Nat} {c : Int} (h : C[i]? = some c) (hz : decide (0 < (i : Int)) = false) : badAt C i = !chanB c := by simp only [badAt, h, hz, Bool.false_and, Bool.or_false]
theorem badAt_suc {C : List Int} {i k : Nat} {c d : Int} (h : C[i]? = some c) (hi : i = k + 1) (hd : C[k]? = some d) : badAt C i = (!chanB c || decide (c ≤ d)) := by
  have h1 : decide (0 < (i : Int)) = true := decide_eq_true (by omega)
  have h2 : i - 1 = k := by omega
  simp only [badAt, h, h1, h2, hd, Bool.true_and]
def ascB (C : List Int) : Bool := !((List.range C.length).any (badAt C))
theorem asc_bad {C : List Int} {i : Nat} {c : Int} (h : C[i]? = some c) (hb : badAt C i = true) : ascB C = false := by
  have : (List.range C.length).any (badAt C) = true := List.any_eq_true.2 ⟨i, List.mem_range.2 (List.getElem?_eq_some_iff.1 h).1, hb⟩
  simp [ascB, this]
theorem asc_good {C : List Int} (h : ∀ j, j < C.length → badAt C j = false) : ascB C = true := by
  have : (List.range C.length).any (badAt C) = false := by
    rw [List.any_eq_false]
    intro j hj
    rw [h j (List.mem_range.1 hj)]; simp
  simp [ascB, this]
def perB (per fr to : Int) : Bool := decide (0 ≤ fr) && decide (fr ≤ to) && decide (to ≤ per) && decide (1 ≤ per) && decide (per ≤ 1000000000)
def srB (s : Src) : Bool := pointI s.a s.b && powI s.p && ascB s.C && perB s.per s.fr s.to
theorem srB_bad {s : Src} (h : ascB s.C = false) : srB s = false := by simp [srB, h]
theorem srB_no {s : Src} (h : (pointI s.a s.b && powI s.p) = false) : srB s = false := by simp [srB, h]
theorem srB_yes {s : Src} (h : (pointI s.a s.b && powI s.p) = true) (hc : ascB s.C = true) : srB s = perB s.per s.fr s.to := by simp [srB, h, hc]
theorem s116 (n : Nat) (H : Heap) (s : Src) (hC : s.C.length ≤ maxLen) : call1 T (n + 2) (.fn 116) [.agg (srC s)] H = some (.bool (srB s), H) := by
  refine call_pure e116 (by rfl) ?_
  simp only [c116, heap0, go_sem, Int.reduceToNat, Nat.reduceAdd, Nat.reduceBEq, Nat.reduceLeDiff, Nat.reduceLT, Nat.reduceMul, Nat.reduceSub, Int.reduceEq, Int.reduceLT, Int.reduceLE, Int.reduceNeg]
  repeat' (with_reducible refine fork_split (fun _ => ?_) (fun _ => ?_) <;> simp only [*, go_sem, Int.reduceToNat, Nat.reduceAdd, Nat.reduceBEq, Nat.reduceLeDiff, Nat.reduceLT, Nat.reduceMul, Nat.reduceSub, Int.reduceEq, Int.reduceLT, Int.reduceLE, Int.reduceNeg])
  all_goals try (
    with_reducible refine congrArg some (congrArg SV.bool ?_)
    rw [srB_no (by rw [Bool.eq_false_iff]; simp only [pointI, powI, ne_eq, Bool.and_eq_true, decide_eq_true_eq]; grind)]
    done)
  have hpp : (pointI s.a s.b && powI s.p) = true := by
    simp only [pointI, powI, Bool.and_eq_true, decide_eq_true_eq]; grind
  refine loop_rule (fun i => ([(1, .ptr 0 0 0 0), (34, .lst 1 (iS s.C) s.f), (35, .int .i64 s.C.length), (36, .int .i64 i)], ⟨[.box (srC s)], [], 0⟩)) (fun i => ∀ (j : Nat), j < i → badAt s.C j = false) s.C.length ?_ (fun j h => by omega) ?_
  · simp only [go_sem, Int.reduceToNat, Nat.reduceAdd, Nat.reduceBEq, Nat.reduceLeDiff, Nat.reduceLT, Nat.reduceMul, Nat.reduceSub, Int.reduceEq, Int.reduceLT, Int.reduceLE, Int.reduceNeg] <;> rfl
  · intro i hi hP
    rcases Nat.lt_or_ge i s.C.length with hlt | hge
    · obtain ⟨c, hc⟩ := getS hlt
      have hw := w64_suc hlt hC
      have hgo : badAt s.C i = false → ∀ j, j < i + 1 → badAt s.C j = false := fun hb j hj => by
        rcases Nat.lt_or_ge j i with h3 | h3
        · exact hP j h3
        · have : j = i := by omega
          subst this
          exact hb
      cases hz : decide (0 < (i : Int)) with
      | false =>
        have hb := badAt_zero hc hz
        cases hx : chanB c with
        | false =>
          simp only [go_sem, Int.reduceToNat, Nat.reduceAdd, Nat.reduceBEq, Nat.reduceLeDiff, Nat.reduceLT, Nat.reduceMul, Nat.reduceSub, Int.reduceEq, Int.reduceLT, Int.reduceLE, Int.reduceNeg, hlt, hc, s159, hx]
          rw [srB_bad (asc_bad hc (by rw [hb, hx]; rfl))]
        | true =>
          simp only [go_sem, Int.reduceToNat, Nat.reduceAdd, Nat.reduceBEq, Nat.reduceLeDiff, Nat.reduceLT, Nat.reduceMul, Nat.reduceSub, Int.reduceEq, Int.reduceLT, Int.reduceLE, Int.reduceNeg, hlt, hc, s159, hx, hw, hz]
          refine ⟨by first | trivial | omega, by first | trivial | rfl, ?_⟩
          exact hgo (by rw [hb, hx]; rfl)
      | true =>
        obtain ⟨k, hk⟩ : ∃ k, i = k + 1 := ⟨i - 1, by have := of_decide_eq_true hz; omega⟩
        have hkl : k < s.C.length := by omega
        obtain ⟨d, hd⟩ := getS hkl
        have hb := badAt_suc hc hk hd
        have hsub : w64 ((i : Int) - 1) = (k : Int) := by
          have : ((i : Int) - 1) = ((k : Nat) : Int) := by omega
          rw [this]; exact w64_id (by omega) (by simp only [maxLen] at hC; omega)
        cases hx : chanB c with
        | false =>
          simp only [go_sem, Int.reduceToNat, Nat.reduceAdd, Nat.reduceBEq, Nat.reduceLeDiff, Nat.reduceLT, Nat.reduceMul, Nat.reduceSub, Int.reduceEq, Int.reduceLT, Int.reduceLE, Int.reduceNeg, hlt, hc, s159, hx]
          rw [srB_bad (asc_bad hc (by rw [hb, hx]; rfl))]
        | true =>
          simp only [go_sem, Int.reduceToNat, Nat.reduceAdd, Nat.reduceBEq, Nat.reduceLeDiff, Nat.reduceLT, Nat.reduceMul, Nat.reduceSub, Int.reduceEq, Int.reduceLT, Int.reduceLE, Int.reduceNeg, hlt, hc, s159, hx, hw, hsub, hz, hd, hkl]
          cases hm : decide (c ≤ d) with
          | true =>
            simp only [go_sem, Int.reduceToNat, Nat.reduceAdd, Nat.reduceBEq, Nat.reduceLeDiff, Nat.reduceLT, Nat.reduceMul, Nat.reduceSub, Int.reduceEq, Int.reduceLT, Int.reduceLE, Int.reduceNeg]
            rw [srB_bad (asc_bad hc (by rw [hb, hm]; simp))]
          | false =>
            simp only [go_sem, Int.reduceToNat, Nat.reduceAdd, Nat.reduceBEq, Nat.reduceLeDiff, Nat.reduceLT, Nat.reduceMul, Nat.reduceSub, Int.reduceEq, Int.reduceLT, Int.reduceLE, Int.reduceNeg, hw]
            refine ⟨by first | trivial | omega, by first | trivial | rfl, ?_⟩
            exact hgo (by rw [hb, hx, hm]; rfl)
    · have hlt : ¬ i < s.C.length := by omega
      have hd := asc_good (C := s.C) (fun j hj => hP j (by omega))
      rw [srB_yes hpp hd]
      simp only [go_sem, Int.reduceToNat, Nat.reduceAdd, Nat.reduceBEq, Nat.reduceLeDiff, Nat.reduceLT, Nat.reduceMul, Nat.reduceSub, Int.reduceEq, Int.reduceLT, Int.reduceLE, Int.reduceNeg, hlt]
      repeat' (with_reducible refine fork_split (fun _ => ?_) (fun _ => ?_) <;> simp only [*, go_sem, Int.reduceToNat, Nat.reduceAdd, Nat.reduceBEq, Nat.reduceLeDiff, Nat.reduceLT, Nat.reduceMul, Nat.reduceSub, Int.reduceEq, Int.reduceLT, Int.reduceLE, Int.reduceNeg])
      all_goals (simp only [perB]; refine congrArg some (congrArg SV.bool ?_); rw [Bool.eq_iff_iff]; grind)
theorem s131 (n : Nat) (H : Heap) (s : Src) (hC : s.C.length ≤ maxLen) : call1 T (n + 2) (.fn 131) [.agg (srC s)] H = some (.bool (srB s), H) := by
  refine call_pure e131 (by rfl) ?_
  simp only [c131, heap0, go_sem, Int.reduceToNat, Nat.reduceAdd, Nat.reduceBEq, Nat.reduceLeDiff, Nat.reduceLT, Nat.reduceMul, Nat.reduceSub, Int.reduceEq, Int.reduceLT, Int.reduceLE, Int.reduceNeg]
  refine loop_rule (fun i => ([(1, .ptr 0 0 0 0), (3, .int .i64 i)], ⟨[.box (srC s)], [], 0⟩)) (fun i => ∀ (j : Nat), j < i → badAt s.C j = false) s.C.length ?_ (fun j h => by omega) ?_
  · simp only [go_sem, Int.reduceToNat, Nat.reduceAdd, Nat.reduceBEq, Nat.reduceLeDiff, Nat.reduceLT, Nat.reduceMul, Nat.reduceSub, Int.reduceEq, Int.reduceLT, Int.reduceLE, Int.reduceNeg] <;> rfl
  · intro i hi hP
    rcases Nat.lt_or_ge i s.C.length with hlt | hge
    · obtain ⟨c, hc⟩ := getS hlt
      have hw := w64_suc hlt hC
      have hgo : badAt s.C i = false → ∀ j, j < i + 1 → badAt s.C j = false := fun hb j hj => by
        rcases Nat.lt_or_ge j i with h3 | h3
        · exact hP j h3
        · have : j = i := by omega
          subst this
          exact hb
      cases hz : decide (0 < (i : Int)) with
      | false =>
        have hb := badAt_zero hc hz
        cases hx : chanB c with
        | false =>
          simp only [go_sem, Int.reduceToNat, Nat.reduceAdd, Nat.reduceBEq, Nat.reduceLeDiff, Nat.reduceLT, Nat.reduceMul, Nat.reduceSub, Int.reduceEq, Int.reduceLT, Int.reduceLE, Int.reduceNeg, hlt, hc, s98, hx]
          rw [srB_bad (asc_bad hc (by rw [hb, hx]; rfl))]
        | true =>
          simp only [go_sem, Int.reduceToNat, Nat.reduceAdd, Nat.reduceBEq, Nat.reduceLeDiff, Nat.reduceLT, Nat.reduceMul, Nat.reduceSub, Int.reduceEq, Int.reduceLT, Int.reduceLE, Int.reduceNeg, hlt, hc, s98, hx, hw, hz]
          refine ⟨by first | trivial | omega, by first | trivial | rfl, ?_⟩
          exact hgo (by rw [hb, hx]; rfl)
      | true =>
        obtain ⟨k, hk⟩ : ∃ k, i = k + 1 := ⟨i - 1, by have := of_decide_eq_true hz; omega⟩
        have hkl : k < s.C.length := by omega
        obtain ⟨d, hd⟩ := getS hkl
        have hb := badAt_suc hc hk hd
        have hsub : w64 ((i : Int) - 1) = (k : Int) := by
          have : ((i : Int) - 1) = ((k : Nat) : Int) := by omega
          rw [this]; exact w64_id (by omega) (by simp only [maxLen] at hC; omega)
        cases hx : chanB c with
        | false =>
          simp only [go_sem, Int.reduceToNat, Nat.reduceAdd, Nat.reduceBEq, Nat.reduceLeDiff, Nat.reduceLT, Nat.reduceMul, Nat.reduceSub, Int.reduceEq, Int.reduceLT, Int.reduceLE, Int.reduceNeg, hlt, hc, s98, hx]
          rw [srB_bad (asc_bad hc (by rw [hb, hx]; rfl))]
        | true =>
          simp only [go_sem, Int.reduceToNat, Nat.reduceAdd, Nat.reduceBEq, Nat.reduceLeDiff, Nat.reduceLT, Nat.reduceMul, Nat.reduceSub, Int.reduceEq, Int.reduceLT, Int.reduceLE, Int.reduceNeg, hlt, hc, s98, hx, hw, hsub, hz, hd, hkl]
          cases hm : decide (c ≤ d) with
          | true =>
            simp only [go_sem, Int.reduceToNat, Nat.reduceAdd, Nat.reduceBEq, Nat.reduceLeDiff, Nat.reduceLT, Nat.reduceMul, Nat.reduceSub, Int.reduceEq, Int.reduceLT, Int.reduceLE, Int.reduceNeg]
            rw [srB_bad (asc_bad hc (by rw [hb, hm]; simp))]
          | false =>
            simp only [go_sem, Int.reduceToNat, Nat.reduceAdd, Nat.reduceBEq, Nat.reduceLeDiff, Nat.reduceLT, Nat.reduceMul, Nat.reduceSub, Int.reduceEq, Int.reduceLT, Int.reduceLE, Int.reduceNeg, hw]
            refine ⟨by first | trivial | omega, by first | trivial | rfl, ?_⟩
            exact hgo (by rw [hb, hx, hm]; rfl)
    · have hlt : ¬ i < s.C.length := by omega
      have hd := asc_good (C := s.C) (fun j hj => hP j (by omega))
      simp only [go_sem, Int.reduceToNat, Nat.reduceAdd, Nat.reduceBEq, Nat.reduceLeDiff, Nat.reduceLT, Nat.reduceMul, Nat.reduceSub, Int.reduceEq, Int.reduceLT, Int.reduceLE, Int.reduceNeg, hlt, s129, s130]
      cases hpp : (pointI s.a s.b && powI s.p) with
      | true =>
        rw [srB_yes hpp hd]
        rw [Bool.and_eq_true] at hpp
        simp only [go_sem, Int.reduceToNat, Nat.reduceAdd, Nat.reduceBEq, Nat.reduceLeDiff, Nat.reduceLT, Nat.reduceMul, Nat.reduceSub, Int.reduceEq, Int.reduceLT, Int.reduceLE, Int.reduceNeg, s129, s130, hpp.1, hpp.2]
        repeat' (with_reducible refine fork_split (fun _ => ?_) (fun _ => ?_) <;> simp only [*, go_sem, Int.reduceToNat, Nat.reduceAdd, Nat.reduceBEq, Nat.reduceLeDiff, Nat.reduceLT, Nat.reduceMul, Nat.reduceSub, Int.reduceEq, Int.reduceLT, Int.reduceLE, Int.reduceNeg, s129, s130])
        all_goals (simp only [perB]; refine congrArg some (congrArg SV.bool ?_); rw [Bool.eq_iff_iff]; grind)
      | false =>
        rw [srB_no hpp]
        repeat' (with_reducible refine fork_split (fun _ => ?_) (fun _ => ?_) <;> simp only [*, go_sem, Int.reduceToNat, Nat.reduceAdd, Nat.reduceBEq, Nat.reduceLeDiff, Nat.reduceLT, Nat.reduceMul, Nat.reduceSub, Int.reduceEq, Int.reduceLT, Int.reduceLE, Int.reduceNeg, s129, s130])
        all_goals (rw [Bool.and_eq_false_iff] at hpp; grind)
theorem s115 (n : Nat) (H : Heap) (s : Src) (hC : s.C.length ≤ maxLen) : call1 T (n + 3) (.fn 115) [.agg (srC s)] H = some (.bool (!srB s), H) := by
  have h := fun H => s116 n H s hC
  refine call_pure e115 (by rfl) ?_
  simp only [c115, heap0, go_sem, Int.reduceToNat, Nat.reduceAdd, Nat.reduceBEq, Nat.reduceLeDiff, Nat.reduceLT, Nat.reduceMul, Nat.reduceSub, Int.reduceEq, Int.reduceLT, Int.reduceLE, Int.reduceNeg, h]
def srsS (L : List Src) : List (List SV) := L.map srC
def fdsS (L : List Fd) : List (List SV) := L.map fdC
@[go_sem] theorem srsS_len {L : List Src} : (srsS L).length = L.length := by simp [srsS]
@[go_sem] theorem fdsS_len {L : List Fd} : (fdsS L).length = L.length := by simp [fdsS]
@[go_sem] theorem srsS_get {L : List Src} {i : Nat} : (srsS L)[i]? = (L[i]?).map srC := by simp [srsS]
@[go_sem] theorem fdsS_get {L : List Fd} {i : Nat} : (fdsS L)[i]? = (L[i]?).map fdC := by simp [fdsS]
theorem srs_row {L : List Src} : ∀ r ∈ srsS L, r.length = 7 := by
  intro r hr
  simp only [srsS, List.mem_map] at hr
  obtain ⟨h, _, rfl⟩ := hr
  rfl
theorem fds_row {L : List Fd} : ∀ r ∈ fdsS L, r.length = 6 := by
  intro r hr
  simp only [fdsS, List.mem_map] at hr
  obtain ⟨h, _, rfl⟩ := hr
  rfl
def toSr (r : List SV) : Src := match r with
  | [.int _ a, .int _ b, .int _ p, .lst _ L f, .int _ per, .int _ fr, .int _ to] => ⟨a, b, p, L.map (fun c => match c with | [.int _ x] => x | _ => 0), f, per, fr, to⟩
  | _ => ⟨0, 0, 0, [], true, 0, 0, 0⟩
theorem toSr_of (s : Src) : toSr (srC s) = s := by
  obtain ⟨a, b, p, C, f, per, fr, to⟩ := s
  simp [toSr, iS, Function.comp_def]
def toFd (r : List SV) : Fd := match r with
  | [.int _ a, .int _ b, .int _ c, .int _ x, .int _ y, .int _ f] => ⟨a, b, c, x, y, f⟩
  | _ => ⟨0, 0, 0, 0, 0, 0⟩
theorem toFd_of (w : Fd) : toFd (fdC w) = w := rfl
theorem any_sr (p : Src → Bool) (L : List Src) : (srsS L).any (fun r => p (toSr r)) = L.any p := by
  simp only [srsS, List.any_map]
  congr 1
  funext h
  exact congrArg p (toSr_of h)
theorem any_fd (p : Fd → Bool) (L : List Fd) : (fdsS L).any (fun r => p (toFd r)) = L.any p := by
  simp only [fdsS, List.any_map]
  rfl
abbrev sp (S : List Src) (f1 : Bool) (F : List Fd) (f2 : Bool) : SV := .agg [.lst 7 (srsS S) f1, .lst 6 (fdsS F) f2]
def okS (S : List Src) : Prop := S.length ≤ maxLen ∧ ∀ s ∈ S, s.C.length ≤ maxLen
def ckB (S : List Src) (F : List Fd) : Bool := decide (S.length ≤ 16) && decide (F.length ≤ 64) && !S.any (fun s => !srB s) && !F.any (fun w => !fdB w)
def ck (S : List Src) (F : List Fd) : Int := bif ckB S F then 0 else 1
theorem s12z (n : Nat) (H : Heap) (S F f1 f2) (z2 : Nat) (hz : z2 = 6 ∨ F = []) (hS : okS S) (hF : F.length ≤ maxLen) : call1 T (n + 7) (.fn 62) [.agg [.lst 7 (srsS S) f1, .lst z2 (fdsS F) f2]] H = some (.int .i64 (ck S F), H) := by
  refine call_pure e62 (by rfl) ?_
  have h33 := fun H => stdCF_ok (T := T) (f := 114) (n := n + 4) (H := H) (ag := true) (z := 7) (id := 115) (caps := []) (v := .lst 7 (srsS S) f1) (L := srsS S) (p := fun r => !srB (toSr r)) x33 x63 (.lst 7 f1 (.inl rfl)) srs_row (fun h => by cases h) (by simpa [srsS] using hS.1)
    (fun r hr bl ro _ => by
      simp only [srsS, List.mem_map] at hr
      obtain ⟨h, hh, rfl⟩ := hr
      simp only [toSr_of]
      exact s115 (n + 1) ⟨bl, [], ro⟩ h (hS.2 h hh)) (by simp [SV.refs.refsL])
  rw [any_sr (fun s => !srB s)] at h33
  have h36 := fun H => stdCF_ok (T := T) (f := 117) (n := n + 4) (H := H) (ag := true) (z := 6) (id := 118) (caps := []) (v := .lst z2 (fdsS F) f2) (L := fdsS F) (p := fun r => !fdB (toFd r)) x36 x64 (.lst z2 f2 (hz.imp id (by rintro rfl; rfl))) fds_row (fun h => by cases h) (by simpa [fdsS] using hF)
    (fun r hr bl ro _ => by
      simp only [fdsS, List.mem_map] at hr
      obtain ⟨h, hh, rfl⟩ := hr
      simp only [toFd_of]
      exact s118 n ⟨bl, [], ro⟩ h) (by simp [SV.refs.refsL])
  rw [any_fd (fun s => !fdB s)] at h36
  simp only [c62, heap0, go_sem, Int.reduceToNat, Nat.reduceAdd, Nat.reduceBEq, Nat.reduceLeDiff, Nat.reduceLT, Nat.reduceMul, Nat.reduceSub, Int.reduceEq, Int.reduceLT, Int.reduceLE, Int.reduceNeg]
  repeat' (with_reducible refine fork_split (fun _ => ?_) (fun _ => ?_) <;> simp only [*, go_sem, Int.reduceToNat, Nat.reduceAdd, Nat.reduceBEq, Nat.reduceLeDiff, Nat.reduceLT, Nat.reduceMul, Nat.reduceSub, Int.reduceEq, Int.reduceLT, Int.reduceLE, Int.reduceNeg, h33, h36])
  all_goals
    clear h33 h36
    refine congrArg some (congrArg (SV.int .i64) ?_)
    simp only [ck, ckB]
    generalize (S.any fun s => !srB s) = A at *
    generalize (F.any fun s => !fdB s) = B at *
    generalize S.length = ls at *
    generalize F.length = lf at *
    cases A <;> cases B <;> simp only [Bool.not_true, Bool.not_false, Bool.and_true, Bool.and_false, cond_false, Bool.cond_eq_ite, Bool.and_eq_true, decide_eq_true_eq] <;> grind
theorem s62 (n : Nat) (H : Heap) (S F f1 f2) (hS : okS S) (hF : F.length ≤ maxLen) : call1 T (n + 7) (.fn 62) [sp S f1 F f2] H = some (.int .i64 (ck S F), H) := s12z n H S F f1 f2 6 (.inl rfl) hS hF
theorem ck_s {S : List Src} {F : List Fd} {i : Nat} {s : Src} (h : S[i]? = some s) (hb : srB s = false) : ck S F = 1 := by
  have : S.any (fun s => !srB s) = true := List.any_eq_true.2 ⟨s, List.mem_of_getElem? h, by simp [hb]⟩
  simp only [ck, ckB, this, Bool.not_true, Bool.and_false, Bool.false_and, cond_false]
theorem ck_f {S : List Src} {F : List Fd} {i : Nat} {s : Fd} (h : F[i]? = some s) (hb : fdB s = false) : ck S F = 1 := by
  have : F.any (fun s => !fdB s) = true := List.any_eq_true.2 ⟨s, List.mem_of_getElem? h, by simp [hb]⟩
  simp only [ck, ckB, this, Bool.not_true, Bool.and_false, Bool.false_and, cond_false]
theorem ck_ok {S : List Src} {F : List Fd} (h1 : S.length ≤ 16) (h2 : F.length ≤ 64) (hS : ∀ (j : Nat) s, S[j]? = some s → srB s = true) (hF : ∀ (j : Nat) s, F[j]? = some s → fdB s = true) : ck S F = 0 := by
  have a : S.any (fun s => !srB s) = false := by
    rw [List.any_eq_false]; intro s hs
    obtain ⟨j, hj⟩ := List.mem_iff_getElem?.1 hs
    simp [hS j s hj]
  have b : F.any (fun s => !fdB s) = false := by
    rw [List.any_eq_false]; intro s hs
    obtain ⟨j, hj⟩ := List.mem_iff_getElem?.1 hs
    simp [hF j s hj]
  simp only [ck, ckB, a, b, h1, h2, decide_true, Bool.not_false, Bool.and_true, cond_true]
theorem s76 (n : Nat) (H : Heap) (S F f1 f2) (hS : okS S) (hF : F.length ≤ maxLen) : call1 T (n + 3) (.fn 76) [sp S f1 F f2] H = some (.int .i64 (ck S F), H) := by
  refine call_pure e76 (by rfl) ?_
  simp only [c76, heap0, go_sem, Int.reduceToNat, Nat.reduceAdd, Nat.reduceBEq, Nat.reduceLeDiff, Nat.reduceLT, Nat.reduceMul, Nat.reduceSub, Int.reduceEq, Int.reduceLT, Int.reduceLE, Int.reduceNeg]
  repeat' (with_reducible refine fork_split (fun _ => ?_) (fun _ => ?_) <;> simp only [*, go_sem, Int.reduceToNat, Nat.reduceAdd, Nat.reduceBEq, Nat.reduceLeDiff, Nat.reduceLT, Nat.reduceMul, Nat.reduceSub, Int.reduceEq, Int.reduceLT, Int.reduceLE, Int.reduceNeg])
  all_goals try (
    with_reducible refine congrArg some (congrArg (SV.int .i64) ?_)
    simp only [ck, ckB, Bool.cond_eq_ite, Bool.and_eq_true, decide_eq_true_eq]
    simp only [decide_eq_true_eq] at *
    rw [if_neg (by omega)]
    done)
  have hl1 : S.length ≤ 16 := by simp only [decide_eq_false_iff_not] at *; omega
  have hl2 : F.length ≤ 64 := by simp only [decide_eq_false_iff_not] at *; omega
  refine loop_rule (fun i => ([(1, .ptr 0 0 0 0), (3, .int .i64 i)], ⟨[.box [.lst 7 (srsS S) f1, .lst 6 (fdsS F) f2]], [], 0⟩)) (fun i => ∀ (j : Nat) s, j < i → S[j]? = some s → srB s = true) S.length ?_ (fun j s h => by omega) ?_
  · simp only [go_sem, Int.reduceToNat, Nat.reduceAdd, Nat.reduceBEq, Nat.reduceLeDiff, Nat.reduceLT, Nat.reduceMul, Nat.reduceSub, Int.reduceEq, Int.reduceLT, Int.reduceLE, Int.reduceNeg] <;> rfl
  · intro i hi hP
    rcases Nat.lt_or_ge i S.length with hlt | hge
    · obtain ⟨s, hs⟩ := getS hlt
      have hw := w64_suc hlt hS.1
      have h39 := fun H => s131 n H s (hS.2 s (List.mem_of_getElem? hs))
      cases hb : srB s with
      | false => simp only [go_sem, Int.reduceToNat, Nat.reduceAdd, Nat.reduceBEq, Nat.reduceLeDiff, Nat.reduceLT, Nat.reduceMul, Nat.reduceSub, Int.reduceEq, Int.reduceLT, Int.reduceLE, Int.reduceNeg, hlt, hs, h39, hb, ck_s hs hb]
      | true =>
        simp only [go_sem, Int.reduceToNat, Nat.reduceAdd, Nat.reduceBEq, Nat.reduceLeDiff, Nat.reduceLT, Nat.reduceMul, Nat.reduceSub, Int.reduceEq, Int.reduceLT, Int.reduceLE, Int.reduceNeg, hlt, hs, h39, hb, hw]
        refine ⟨by first | trivial | omega, by first | trivial | rfl, ?_⟩
        intro j s' hj hs'
        rcases Nat.lt_or_ge j i with h3 | h3
        · exact hP j s' h3 hs'
        · have : j = i := by omega
          subst this
          rw [hs] at hs'; cases hs'
          exact hb
    · have hlt : ¬ i < S.length := by omega
      simp only [go_sem, Int.reduceToNat, Nat.reduceAdd, Nat.reduceBEq, Nat.reduceLeDiff, Nat.reduceLT, Nat.reduceMul, Nat.reduceSub, Int.reduceEq, Int.reduceLT, Int.reduceLE, Int.reduceNeg, hlt]
      refine loop_rule (fun i => ([(1, .ptr 0 0 0 0), (4, .int .i64 i)], ⟨[.box [.lst 7 (srsS S) f1, .lst 6 (fdsS F) f2]], [], 0⟩)) (fun i => ∀ (j : Nat) s, j < i → F[j]? = some s → fdB s = true) F.length ?_ (fun j s h => by omega) ?_
      · simp only [go_sem, Int.reduceToNat, Nat.reduceAdd, Nat.reduceBEq, Nat.reduceLeDiff, Nat.reduceLT, Nat.reduceMul, Nat.reduceSub, Int.reduceEq, Int.reduceLT, Int.reduceLE, Int.reduceNeg] <;> rfl
      · intro k hk hK
        rcases Nat.lt_or_ge k F.length with hlt3 | hge3
        · obtain ⟨s, hs⟩ := getS hlt3
          have hw := w64_suc hlt3 hF
          have h40 := fun H => s132 n H s
          cases hb : fdB s with
          | false => simp only [go_sem, Int.reduceToNat, Nat.reduceAdd, Nat.reduceBEq, Nat.reduceLeDiff, Nat.reduceLT, Nat.reduceMul, Nat.reduceSub, Int.reduceEq, Int.reduceLT, Int.reduceLE, Int.reduceNeg, hlt3, hs, h40, hb, ck_f hs hb]
          | true =>
            simp only [go_sem, Int.reduceToNat, Nat.reduceAdd, Nat.reduceBEq, Nat.reduceLeDiff, Nat.reduceLT, Nat.reduceMul, Nat.reduceSub, Int.reduceEq, Int.reduceLT, Int.reduceLE, Int.reduceNeg, hlt3, hs, h40, hb, hw]
            refine ⟨by first | trivial | omega, by first | trivial | rfl, ?_⟩
            intro j s' hj hs'
            rcases Nat.lt_or_ge j k with h3 | h3
            · exact hK j s' h3 hs'
            · have : j = k := by omega
              subst this
              rw [hs] at hs'; cases hs'
              exact hb
        · have hlt3 : ¬ k < F.length := by omega
          have hck := ck_ok hl1 hl2 (fun j s hj => hP j s (by have := (List.getElem?_eq_some_iff.1 hj).1; omega) hj) (fun j s hj => hK j s (by have := (List.getElem?_eq_some_iff.1 hj).1; omega) hj)
          simp only [go_sem, Int.reduceToNat, Nat.reduceAdd, Nat.reduceBEq, Nat.reduceLeDiff, Nat.reduceLT, Nat.reduceMul, Nat.reduceSub, Int.reduceEq, Int.reduceLT, Int.reduceLE, Int.reduceNeg, hlt3, hck]
def fewB (S : List Src) (F : List Fd) : Bool := decide (S.length ≤ 20) && decide (F.length ≤ 70) && !S.any (fun s => decide (20 < s.C.length))
theorem few_no {S : List Src} {F : List Fd} {i : Nat} {s : Src} (h : S[i]? = some s) (hb : 20 < s.C.length) : fewB S F = false := by
  have : S.any (fun s => decide (20 < s.C.length)) = true := List.any_eq_true.2 ⟨s, List.mem_of_getElem? h, by simp [hb]⟩
  simp only [fewB, this, Bool.not_true, Bool.and_false]
theorem few_ok {S : List Src} {F : List Fd} (h1 : S.length ≤ 20) (h2 : F.length ≤ 70) (hS : ∀ (j : Nat) s, S[j]? = some s → s.C.length ≤ 20) : fewB S F = true := by
  have a : S.any (fun s => decide (20 < s.C.length)) = false := by
    rw [List.any_eq_false]; intro s hs
    obtain ⟨j, hj⟩ := List.mem_iff_getElem?.1 hs
    have := hS j s hj
    simp; omega
  simp only [fewB, a, h1, h2, decide_true, Bool.not_false, Bool.and_true]
theorem few_of {S : List Src} {F : List Fd} (h : fewB S F = true) : S.length ≤ 20 ∧ F.length ≤ 70 ∧ ∀ s ∈ S, s.C.length ≤ 20 := by
  simp only [fewB, Bool.and_eq_true, decide_eq_true_eq, Bool.not_eq_true', List.any_eq_false, Nat.not_lt] at h
  exact ⟨h.1.1, h.1.2, h.2⟩
theorem s87 (n : Nat) (H : Heap) (S F f1 f2) (hS : S.length ≤ maxLen) : call1 T (n + 2) (.fn 87) [sp S f1 F f2] H = some (.bool (fewB S F), H) := by
  refine call_pure e87 (by rfl) ?_
  simp only [c87, heap0, go_sem, Int.reduceToNat, Nat.reduceAdd, Nat.reduceBEq, Nat.reduceLeDiff, Nat.reduceLT, Nat.reduceMul, Nat.reduceSub, Int.reduceEq, Int.reduceLT, Int.reduceLE, Int.reduceNeg]
  repeat' (with_reducible refine fork_split (fun _ => ?_) (fun _ => ?_) <;> simp only [*, go_sem, Int.reduceToNat, Nat.reduceAdd, Nat.reduceBEq, Nat.reduceLeDiff, Nat.reduceLT, Nat.reduceMul, Nat.reduceSub, Int.reduceEq, Int.reduceLT, Int.reduceLE, Int.reduceNeg])
  all_goals try (
    with_reducible refine congrArg some (congrArg SV.bool ?_)
    simp only [decide_eq_true_eq] at *
    rw [eq_comm, Bool.eq_false_iff]
    intro hq
    have := few_of hq
    omega)
  have hl1 : S.length ≤ 20 := by simp only [decide_eq_false_iff_not] at *; omega
  have hl2 : F.length ≤ 70 := by simp only [decide_eq_false_iff_not] at *; omega
  refine loop_rule (fun i => ([(1, .ptr 0 0 0 0), (3, .int .i64 i)], ⟨[.box [.lst 7 (srsS S) f1, .lst 6 (fdsS F) f2]], [], 0⟩)) (fun i => ∀ (j : Nat) s, j < i → S[j]? = some s → s.C.length ≤ 20) S.length ?_ (fun j s h => by omega) ?_
  · simp only [go_sem, Int.reduceToNat, Nat.reduceAdd, Nat.reduceBEq, Nat.reduceLeDiff, Nat.reduceLT, Nat.reduceMul, Nat.reduceSub, Int.reduceEq, Int.reduceLT, Int.reduceLE, Int.reduceNeg] <;> rfl
  · intro i hi hP
    rcases Nat.lt_or_ge i S.length with hlt | hge
    · obtain ⟨s, hs⟩ := getS hlt
      have hw := w64_suc hlt hS
      rcases Nat.lt_or_ge 20 s.C.length with hb | hb
      · have hb' : decide (20 < (s.C.length : Int)) = true := decide_eq_true (by omega)
        simp only [go_sem, Int.reduceToNat, Nat.reduceAdd, Nat.reduceBEq, Nat.reduceLeDiff, Nat.reduceLT, Nat.reduceMul, Nat.reduceSub, Int.reduceEq, Int.reduceLT, Int.reduceLE, Int.reduceNeg, hlt, hs, hb', few_no hs hb]
      · have hb' : decide (20 < (s.C.length : Int)) = false := decide_eq_false (by omega)
        simp only [go_sem, Int.reduceToNat, Nat.reduceAdd, Nat.reduceBEq, Nat.reduceLeDiff, Nat.reduceLT, Nat.reduceMul, Nat.reduceSub, Int.reduceEq, Int.reduceLT, Int.reduceLE, Int.reduceNeg, hlt, hs, hb', hw]
        refine ⟨by first | trivial | omega, by first | trivial | rfl, ?_⟩
        intro j s' hj hs'
        rcases Nat.lt_or_ge j i with h3 | h3
        · exact hP j s' h3 hs'
        · have : j = i := by omega
          subst this
          rw [hs] at hs'; cases hs'
          exact hb
    · have hlt : ¬ i < S.length := by omega
      have hfo := few_ok hl1 hl2 (fun j s hj => hP j s (by have := (List.getElem?_eq_some_iff.1 hj).1; omega) hj)
      simp only [go_sem, Int.reduceToNat, Nat.reduceAdd, Nat.reduceBEq, Nat.reduceLeDiff, Nat.reduceLT, Nat.reduceMul, Nat.reduceSub, Int.reduceEq, Int.reduceLT, Int.reduceLE, Int.reduceNeg, hlt, hfo]
def inB (n : Nat) (a : Int) : Bool := decide (0 ≤ a) && decide (a < n)
def exA (N : List (Int × Int)) (P : List Int) (W : List G.Wl) (ex no th : Int) (k : Nat) (s : Src) : Int :=
  G.AtV (G.atI W ex s.a s.b s.p (G.nd N k).1 (G.nd N k).2) (G.okI N P W ex no th) (G.argI s.a s.b s.p (G.nd N k).1 (G.nd N k).2)
end U
end Go.Sh
