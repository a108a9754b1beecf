/- A part of the proof: texts Gtga. -/
import Derived.Test.YtlkjiffohmkidaaGreatProg
import Derived.KernelRfl
import Derived.Test.YtlkjiffohmkidaaGreatB3
namespace Go.Sh
set_option linter.unusedSectionVars false
set_option linter.unnecessarySimpa false
set_option linter.unusedSimpArgs false
set_option linter.unusedVariables false
set_option maxRecDepth 100000
set_option maxHeartbeats 4000000
def cg:qm:={keep:=(fun f=>match f with|246=>some 3|_=>none),lit:=(fun _ _=>true),cR:=(fun f r=>match f,r with|4,35=>[11,12]|_,_=>[]),Bb:=(fun f r=>match f,r with|8,2=>[(2,1)]|73,4=>[(5,1)]|_,_=>[]),oD:=(fun f r=>match f,r with|219,51=>some 4|40,21=>some 3|156,17=>some 3|20,75=>some 1|25,42=>some 2|56,4=>some 4|18,46=>some 7|17,39=>some 7|73,13=>some 1|33,22=>some 1|12,14=>some 2|39,24=>some 2|39,32=>some 2|3,74=>some 1|13,41=>some 1|158,18=>some 2|_,_=>none),viewAt:=(fun f r=>match f,r with|4,203=>true|4,208=>true|4,220=>true|_,_=>false),sG:=(fun _ _=>none),loop:=(fun f r=>match f,r with
 |3,14=>⟨[3,5,7,8,10,11,12,13,79,80,81],[]⟩
 |4,41=>⟨[1,7,8,12,25,27,28,187,188],[(28,1)]⟩
 |4,18=>⟨[1,7,8,9,10,11,12,13,15,68,69,70,89,90,91],[]⟩
 |4,12=>⟨[1,7,8,9,10,11,12,13,68,69,70],[(11,4),(12,1)]⟩
 |5,31=>⟨[0,4,9,11,13,14,15,16,19,21,125,126,127,142,143,144,158,159],[]⟩
 |5,25=>⟨[0,4,9,11,13,14,15,16,19,125,126,127,142,143,144],[]⟩
 |5,18=>⟨[0,4,9,11,13,14,125,126,127],[]⟩
 |7,8=>⟨[0,4,5,6,25,26],[]⟩
 |7,5=>⟨[0,4,25,26],[]⟩
 |9,8=>⟨[7,8],[]⟩
 |13,6=>⟨[1,11,42,43,44],[]⟩
 |14,5=>⟨[0,1,2,3,4,11,20,21,25,26],[]⟩
 |14,2=>⟨[0,1,2,3,4,20,21],[]⟩
 |18,30=>⟨[10,13,121,122,123],[]⟩
 |18,24=>⟨[10,13,105,106,107],[]⟩
 |18,18=>⟨[10,13,18,73,74,75],[]⟩
 |18,11=>⟨[4,5,10,12,13,14,48,49,50],[]⟩
 |19,6=>⟨[5,14,15,16],[(5,1)]⟩
 |20,15=>⟨[0,2,8,9,49,50,51],[]⟩
 |20,8=>⟨[0,1,2,8,9,34,35,36],[]⟩
 |23,2=>⟨[0,1,7,8],[]⟩
 |29,10=>⟨[0,1,2,8,9,43,44],[(9,5)]⟩
 |31,5=>⟨[1,6,24,25],[]⟩
 |32,3=>⟨[0,6,13,14,15],[]⟩
 |40,10=>⟨[2,7,11,13,14,66,67,68],[]⟩
 |53,2=>⟨[0,5,6,7],[]⟩
 |54,4=>⟨[1,33,34,35],[]⟩
 |58,2=>⟨[2,3,4,5,9,10,11],[(4,1),(5,1)]⟩
 |62,5=>⟨[0,1,5,6],[]⟩
 |64,4=>⟨[0,13,14,15],[]⟩
 |67,2=>⟨[0,1,7,8],[]⟩
 |70,4=>⟨[5,17,18,19],[]⟩
 |81,1=>⟨[0,1,7],[]⟩
 |85,22=>⟨[1,8,63,64,65],[]⟩
 |85,12=>⟨[0,1,5,39,40,41],[]⟩
 |95,2=>⟨[1,5,6],[]⟩
 |97,2=>⟨[0,1,7,8],[]⟩
 |111,2=>⟨[0,1,7,8],[]⟩
 |112,1=>⟨[0,1,2,6,7],[]⟩
 |123,6=>⟨[0,2,29,30],[]⟩
 |137,3=>⟨[0,5,6,7],[]⟩
 |147,7=>⟨[0,6],[]⟩
 |153,13=>⟨[2,3,8,24,25,26,71,72,73],[]⟩
 |153,6=>⟨[2,3,24,25,26],[]⟩
 |154,2=>⟨[1,2,3,10,11,12],[]⟩
 |162,9=>⟨[0,1,2,6,7,8],[]⟩
 |162,7=>⟨[0,1,2,6],[]⟩
 |162,2=>⟨[0,1,2,6,7,8],[]⟩
 |164,2=>⟨[0,1,7,8],[]⟩
 |167,3=>⟨[0,1,5,8,9,10],[]⟩
 |190,4=>⟨[0,1,2,3,8,9],[]⟩
 |190,1=>⟨[0,1,2,3,8],[]⟩
 |191,33=>⟨[0,1,2,3,4,18,19,20,21,22],[]⟩
 |191,21=>⟨[0,14,17],[]⟩
 |191,15=>⟨[0,2,4,14,15],[]⟩
 |191,9=>⟨[0,10,13],[]⟩
 |191,3=>⟨[0,1,4,10,11],[]⟩
 |193,1=>⟨[0,2,6],[]⟩
 |197,3=>⟨[0,1,5,9,10],[]⟩
 |198,2=>⟨[0,2,15,16],[]⟩
 |199,13=>⟨[6,7,41,42],[]⟩
 |211,4=>⟨[1,34,35,36],[]⟩
 |220,1=>⟨[0,1,2,3,8,9,10],[]⟩
 |221,2=>⟨[0,2,4,10,11],[]⟩
 |222,4=>⟨[0,1,2,5],[]⟩
 |225,2=>⟨[0,1,7,8],[]⟩
 |226,2=>⟨[0,1,7,8],[]⟩
 |227,2=>⟨[0,1,7,8],[]⟩
 |228,2=>⟨[0,1,7,8],[]⟩
 |235,3=>⟨[2,5,8,9,10],[]⟩
 |238,1=>⟨[0,1,2,3,10],[]⟩
 |239,2=>⟨[0,1,3,7],[]⟩
 |242,1=>⟨[0,2,3,4,9,10,11],[]⟩
 |247,1=>⟨[0,2,3,8,9,10],[]⟩
 |_,_=>⟨[],[]⟩)}
noncomputable def T:FuncId→Option bp:=mW Go.Proofs.Tryz.prog cg
def c3:bp:=⟨[.tmp 6],SQ [OG 3 0,OG 5 2,OQ 6 false] (.seq (SQ [OC 24 6 [],OH 25 24] (CS 25 (SQ [OQ 6 false] .ret))) (SQ [OF 26 0 3,OL 27 26,OE 28 27,OM 7 28] (.seq (SQ [OM 29 7,OJ 30 .lss 29 1,OM 31 30,PU 32 7 31,OU 33 (.bin .gtr (.t 32) (IC 6)) 31,OO 34 (FX 31 33),OM 35 34,OU 36 (.bZ 1 (.t 3)) 35,OU 37 (FZ 36) 35,OU 38 (.len (.t 37)) 35,PU 39 7 35,OU 40 (.bin .neq (.t 38) (.t 39)) 35,OO 41 (FX 35 40),OM 42 41,PU 43 1 42,OU 44 (.len (.t 43)) 42,OU 45 (.bin .gtr (.t 44) (IC 40)) 42,OO 46 (FX 42 45),OM 47 46,OU 48 (FZ 5) 47,OU 49 (.bin .lss (.t 48) (IC 0)) 47,OO 50 (FX 47 49),OM 51 50,OU 52 (FZ 5) 51,OU 53 (.bin .gtr (.t 52) (IC 1000)) 51,OO 54 (FX 51 53)] (CS 54 (SQ [OQ 6 true] .ret))) (SQ [OF 56 1 3,OL 57 56,OC 58 8 [57],OC 59 7 [58],OM 55 59,OX 60 55 0,OX 61 55 1,OM 8 60,OM 9 61] (.seq (SQ [OM 62 9,OJ 63 .neq 62 0,OM 64 63,PU 65 8 64,OU 66 (.len (.t 65)) 64,PU 67 7 64,OU 68 (.bin .neq (.t 66) (.t 67)) 64,OO 69 (FX 64 68)] (CS 69 (SQ [OM 70 9,OJ 71 .neq 70 0,OM 6 71] .ret))) (SQ [OO 72 (.dR 1 [FW] 1 [(0,IC (-1))]),OM 73 7,OO 74 (.eK 9 1 [.t 72,.t 73]),OO 10 (.alloc [.aP 0 [] true]),⟨none,.store 1 (.t 10) (.t 74),none⟩] (SQ [OF 75 0 3,OL 76 75,OC 77 10 [76],OM 11 77] (SQ [OO 78 (.kL 11 [.t 10,.t 5]),OM 12 78] (SQ [OK 13 0] (.seq (SQ [OM 79 1,OE 80 79,OK 81 0] (.block 0 (.loop ⟨[3,5,7,8,10,11,12,13,79,80,81],[]⟩ (SQ [OB 82 .lss 81 80] (.seq (CX 82 0) (.seq (.block 1 (SQ [OI 83 3 79 81,OA 84 3 83,OO 15 (.alloc [FW,FW,.bool false]),⟨none,.store 3 (.t 15) (.t 84),none⟩] (.seq (SQ [OF 85 1 15,OL 86 85,OM 87 13,OB 88 .lss 86 87,OM 89 88,OU 90 (.bZ 1 (.t 15)) 89,OU 91 (FZ 90) 89,OU 92 (.bin .gtr (.t 91) (IC 10000)) 89,OO 93 (FX 89 92),OM 94 93,OU 95 (.bZ 0 (.t 15)) 94,OU 96 (FZ 95) 94,OU 97 (.bin .lss (.t 96) (IC 1)) 94,OO 98 (FX 94 97),OM 99 98,OU 100 (.bZ 0 (.t 15)) 99,OU 101 (FZ 100) 99,PU 102 7 99,OU 103 (.bin .geq (.t 101) (.t 102)) 99,OO 104 (FX 99 103)] (CS 104 (SQ [OQ 6 true] .ret))) (SQ [OF 105 1 15,OL 106 105,OM 13 106] (SQ [OF 107 1 3,OL 108 107,OF 109 0 15,OL 110 109,OI 111 1 108 110,OL 112 111,OM 16 112] (.seq (SQ [OM 113 16,OJ 114 .lss 113 0,OM 115 114,PU 116 16 115,PU 117 7 115,OU 118 (.bin .geq (.t 116) (.t 117)) 115,OO 119 (FX 115 118)] (CS 119 (SQ [OQ 6 false] .ret))) (SQ [OM 120 16,OM 17 120] (.seq (SQ [OF 121 2 15,OL 122 121] (CS 122 (.ops [OF 123 0 15,OL 124 123,OM 17 124]))) (SQ [OM 126 11,OM 127 17,OI 128 4 126 127,OF 129 0 128,OA 130 2 129,OM 131 13,OC 132 12 [130,131],OM 125 132,OX 133 125 0,OX 134 125 1,OM 18 133,OM 19 134] (SQ [OM 135 12,OM 136 16,OM 137 13,OO 138 (.call (.t 135) [.t 136,.t 137]),OM 139 138,PT 140 19 139,OT 141 (.bin .eql (.t 140) (IC 0)) 139,OO 142 (FY 139 141),OM 143 142,PT 144 18 143,OT 145 (.bin .gtr (.t 144) (IC 0)) 143,OO 146 (FY 143 145),OM 20 146] (.seq (.drawn [DM 148 11,(OC 149 10 [148],DS),DF 150 1 3,DL 151 150,(OC 152 8 [151],DS),DA 153 3 15,(OO 154 (.dR 3 [FW,FW,.bool false] 1 [(0,.t 153)]),DP),(OC 155 13 [149,152,154],DB),DM 147 155,(OX 156 147 0,DP),(OX 157 147 1,DP),(OX 158 147 2,DP),DM 21 156,DM 22 157,DM 23 158]) (.seq (SQ [OM 159 23,OJ 160 .neq 159 0] (CS 160 (SQ [OM 161 21,OE 162 161,OJ 163 .eql 162 0,OM 6 163] .ret))) (.seq (SQ [OM 164 21,OE 165 164,OM 166 7,OB 167 .neq 165 166] (CS 167 (SQ [OQ 6 false] .ret))) (SQ [OM 168 21,OM 11 168] (SQ [OL 169 10,OF 170 0 15,OL 171 170,OI 172 1 169 171,⟨none,.store 1 (.t 172) (IC (-1)),none⟩] (.seq (SQ [OM 173 20] (CS 173 (.ops [OL 174 10,OF 175 0 15,OL 176 175,OM 177 13,OI 178 1 174 176,⟨none,.store 1 (.t 178) (.t 177),none⟩]))) (SQ [OM 179 11,OM 180 8,OM 181 13,OJ 182 .add 181 1,OL 183 5,OM 184 12,OC 185 14 [179,180,182,183,184],OH 186 185] (CS 186 (SQ [OQ 6 false] .ret))))))))))))))))))) (.ops [OJ 187 .add 81 1,OM 81 187]))))))) (SQ [OQ 6 true] .ret))))))))))),false⟩
theorem e3:T 3=some c3:=by kernel_rfl
def c6:bp:=⟨[.tmp 0],SQ [OQ 0 false] (SQ [OO 19 (.build [FW,FW] []),OO 20 (.build [FW,FW] [(0,(1,IC 30))]),OO 21 (.dR 2 [FW,FW] 2 [(0,.t 19),(1,.t 20)]),OO 22 (.dR 1 [FW] 2 [(0,IC 90000),(1,IC 90000)]),OO 23 (.build [.aP 0 [] true,.aP 0 [] true,.aP 0 [] true,FW,FW,FW] [(0,(1,.t 21)),(1,(1,.t 22)),(3,(1,IC 2)),(4,(1,IC 10)),(5,(1,IC 2000))]),OO 1 (.alloc [.aP 0 [] true,.aP 0 [] true,.aP 0 [] true,FW,FW,FW]),⟨none,.store 6 (.t 1) (.t 23),none⟩] (SQ [OO 24 (.build [FW,FW,FW,FW,FW,FW,FW,FW,FW,FW,FW,.str (.mk (.mk []))] [(0,(1,IC 4)),(1,(1,IC 0)),(2,(1,IC 1)),(11,(1,.c (.str (.mk (.mk [120])))))]),OO 2 (.alloc [FW,FW,FW,FW,FW,FW,FW,FW,FW,FW,FW,.str (.mk (.mk []))]),⟨none,.store 12 (.t 2) (.t 24),none⟩] (SQ [OA 26 12 2,OC 27 38 [26],OM 25 27,OX 28 25 0,OX 29 25 1,OM 3 28,OM 4 29] (SQ [OO 31 (.build [FW,FW] []),OO 32 (.call (.c (.fn 12 [])) [.t 31,IC 1]),OM 30 32,OX 33 30 0,OX 34 30 1,OM 5 33,OM 6 34] (SQ [OO 36 (.dR 1 [FW] 2 [(0,IC 7),(1,IC 8)]),OO 37 (.build [FW,FW,FW,.aP 0 [] true] [(2,(1,IC 9)),(3,(1,.t 36))]),OO 38 (.call (.c (.fn 25 [])) [.t 37,IC 1,IC 0]),OM 35 38,OX 39 35 0,OX 40 35 1,OM 7 39,OM 8 40] (SQ [OO 42 (.build [FW,FW] []),OO 43 (.call (.c (.fn 39 [])) [.t 42,IC 1]),OM 41 43,OX 44 41 0,OX 45 41 1,OX 46 41 2,OM 9 44,OM 10 45,OM 11 46] (.seq (SQ [OM 47 4,OM 48 6,OB 49 .add 47 48,OM 50 8,OB 51 .add 49 50,OM 52 11,OB 53 .add 51 52,OJ 54 .neq 53 0,OM 55 54,PU 56 3 55,OU 57 (.bin .eql (.t 56) (IC 0)) 55,OO 58 (FX 55 57),OM 59 58,PU 60 7 59,OU 61 (.bin .neq (.t 60) (IC 8)) 59,OO 62 (FX 59 61)] (CS 62 (SQ [OQ 0 false] .ret))) (SQ [OA 64 6 1,OO 65 (.build [.aP 0 [] true,.aP 0 [] true] []),OM 66 7,OM 67 5,OM 68 5,OM 69 3,OB 70 .add 68 69,OO 71 (.build [FW,FW,FW,FW] [(0,(1,IC 0)),(1,(1,.t 66)),(2,(1,.t 67)),(3,(1,.t 70))]),OO 72 (.dR 4 [FW,FW,FW,FW] 1 [(0,.t 71)]),OM 73 7,OM 74 9,OM 75 10,OO 76 (.build [FW,FW,FW,FW] [(0,(1,IC 1)),(1,(1,.t 73)),(2,(1,.t 74)),(3,(1,.t 75))]),OC 77 40 [64,65,72,76],OM 63 77,OX 78 63 0,OX 79 63 1,OX 80 63 2,OM 12 78,OM 13 79,OM 14 80] (SQ [OO 82 (.call (.c (.fn 29 [])) [IC 1,.c (.str (.mk (.mk [97,98,99]))),IC 2]),OM 81 82,OX 83 81 0,OX 84 81 1,OM 15 83,OM 16 84] (SQ [OC 86 16 [],OC 87 19 [86],OM 85 87,OX 88 85 0,OX 89 85 1,OM 17 88,OM 18 89] (SQ [OM 90 12,OJ 91 .eql 90 0,OM 92 91,PT 93 13 92,OO 94 (FY 92 93),OM 95 94,PT 96 14 95,OT 97 (.bin .eql (.t 96) (IC 0)) 95,OO 98 (FY 95 97),OM 99 98,PT 100 16 99,OT 101 (.bin .eql (.t 100) (IC 0)) 99,OO 102 (FY 99 101),OM 103 102,PT 104 15 103,OT 105 (.len (.t 104)) 103,OT 106 (.bin .eql (.t 105) (IC 2)) 103,OO 107 (FY 103 106),OM 108 107,PT 109 18 108,OT 110 (.bin .eql (.t 109) (IC 0)) 108,OO 111 (FY 108 110),OM 112 111,OT 113 (.build [FW,FW,FW,FW] [(2,(1,IC 1)),(3,(1,IC 1))]) 112,OT 114 (.call (.c (.fn 41 [])) [.t 113,IC 2,IC 1]) 112,OO 115 (FY 112 114),OM 0 115] .ret))))))))))),false⟩
theorem e6:T 6=some c6:=by kernel_rfl
def c7:bp:=⟨[.tmp 2,.tmp 3],SQ [OZ 2,OK 3 0] (.seq (SQ [OM 7 0,OE 8 7,OJ 9 .lss 8 1,OM 10 9,PU 11 0 10,OU 12 (.len (.t 11)) 10,OU 13 (.bin .gtr (.t 12) (IC 32)) 10,OO 14 (FX 10 13),OM 15 14,PU 16 0 15,OU 17 (.cC 1 (.t 16) (IC 0)) 15,OU 18 (FZ 17) 15,OU 19 (.bin .neq (.t 18) (IC (-1))) 15,OO 20 (FX 15 19)] (CS 20 (SQ [OZ 2,OK 3 1] .ret))) (SQ [OM 21 0,OE 22 21,OO 23 (.dE 1 [FW] 8 (.t 22) (.t 22)),OM 4 23] (.seq .skip (.seq (SQ [OM 24 0,OE 25 24,OK 26 0] (.block 0 (.loop ⟨[0,4,25,26],[]⟩ (SQ [OB 27 .lss 26 25] (.seq (CX 27 0) (.seq (.block 1 (SQ [OM 28 26,OM 5 28] (.seq (SQ [OM 29 5,OM 6 29] (.block 2 (.loop ⟨[0,4,5,6,25,26],[]⟩ (.seq (SQ [OM 30 4,OM 31 5,OI 32 1 30 31,OL 33 32,OM 34 0,OE 35 34,OB 36 .lss 33 35] (CX 36 2)) (.seq (.block 3 (.seq (SQ [OM 43 6,OJ 44 .eql 43 0] (CS 44 (.exit 1))) (SQ [OM 45 0,OM 46 6,OI 47 1 45 46,OL 48 47,OM 6 48] (SQ [OM 49 6,OJ 50 .lss 49 0,OM 51 50,PU 52 6 51,PU 53 0 51,OU 54 (.len (.t 53)) 51,OU 55 (.bin .geq (.t 52) (.t 54)) 51,OO 56 (FX 51 55)] (CS 56 (SQ [OZ 2,OK 3 1] .ret)))))) (.ops [OM 37 4,OM 38 5,OI 39 1 37 38,OL 40 39,OJ 41 .add 40 1,OI 42 1 37 38,⟨none,.store 1 (.t 42) (.t 41),none⟩])))))) (SQ [OZ 2,OK 3 1] .ret)))) (.ops [OJ 57 .add 26 1,OM 26 57]))))))) (SQ [OM 58 4,OM 2 58,OK 3 0] .ret))))),false⟩
theorem e7:T 7=some c7:=by kernel_rfl
def c8:bp:=⟨[.tmp 2],SQ [OZ 2] (.seq (SQ [OM 3 0] (.tm 4 false (.t 3) (CS 4 (.seq (SQ [OZ 2] (.aU [(2,1)])) .ret)))) (SQ [OO 5 (.dR 1 [FW] 0 []),OM 6 0,OO 7 (.append 1 8 (.t 5) (.t 6)),OM 2 7] .ret)),false⟩
theorem e8:T 8=some c8:=by kernel_rfl
def c9:bp:=⟨[.tmp 4],SQ [OZ 4] (.seq (SQ [OM 9 1,OJ 10 .lss 9 0] (CS 10 (.ops [⟨some 11,.bad,none⟩,⟨none,.bad,none⟩]))) (SQ [OM 13 0,OE 14 13,OO 15 (.dX .u64 (.t 14)),OM 16 1,OO 17 (.dX .u64 (.t 16)),OC 18 42 [15,17],OM 12 18,OX 19 12 0,OX 20 12 1,OM 5 19,OM 6 20] (.seq (SQ [OM 21 5,OO 22 (.bin .gtr (.t 21) (.c (.int .u64 0))),OM 23 22,PU 24 6 23,OU 25 (.bin .gtr (.t 24) (.c (.int .u64 9223372036854775807))) 23,OO 26 (FX 23 25)] (CS 26 (.ops [⟨some 27,.bad,none⟩,⟨none,.bad,none⟩]))) (SQ [OM 28 6,OO 29 (.dX .i64 (.t 28)),OO 30 (.dE 1 [FW] 8 (.t 29) (.t 29)),OM 7 30] (SQ [OM 31 7,OM 32 0,OO 33 (.copy 1 (.t 31) (.t 32)),OM 8 33] (.seq (.block 0 (.loop ⟨[7,8],[]⟩ (.seq (SQ [OM 34 8,OM 35 7,OE 36 35,OB 37 .lss 34 36] (CX 37 0)) (.block 1 (.drawn [DM 38 8,DM 39 7,DM 40 8,(OO 41 (.dA 1 (.t 39) (some (.t 40)) none none),DS),DM 42 7,DM 43 8,(OO 44 (.dA 1 (.t 42) none (some (.t 43)) none),DS),(OO 45 (.copy 1 (.t 41) (.t 44)),DB),DD 46 .add 38 45,DM 8 46]))))) (SQ [OM 47 7,OM 4 47] .ret))))))),false⟩
theorem e9:T 9=some c9:=by kernel_rfl
def zr:bp:=⟨[.tmp 2],SQ [OZ 2] (.seq (SQ [OM 3 0] (.tm 4 false (.t 3) (CS 4 (SQ [OZ 2] .ret)))) (SQ [OO 5 (.dR 4 [FW,FW,FW,FW] 0 []),OM 6 0,OO 7 (.append 4 32 (.t 5) (.t 6)),OM 2 7] .ret)),false⟩
theorem Bd:T 10=some zr:=by kernel_rfl
def yD:bp:=⟨[.tmp 6],SQ [OQ 6 false] (.seq (.drawn [DM 7 0,(OJ 8 .eql 7 0,DP),DM 9 8,(OU 10 (FZ 2) 9,DB),(PU 11 0 9,DP),(OU 12 (.cC 1 (.t 10) (.t 11)) 9,DB),(OU 13 (FZ 12) 9,DB),(OU 14 (.bin .geq (.t 13) (IC 0)) 9,DP),(PU 15 14 9,DP),(PT 16 1 15,DP),(OT 17 (FZ 2) 15,DS),(PT 18 0 15,DP),(OT 19 (.cC 1 (.t 17) (.t 18)) 15,DS),(OT 20 (FZ 19) 15,DS),(OT 21 (.bin .sub (.t 16) (.t 20)) 15,DP),(OT 22 (FZ 3) 15,DS),(OT 23 (.bin .leq (.t 21) (.t 22)) 15,DP),(OU 24 (FY 15 23) 9,DP),(OO 25 (FX 9 24),DP),DM 6 25]) .ret),false⟩
theorem BT:T 11=some yD:=by kernel_rfl
def AL:bp:=⟨[.tmp 4,.tmp 5],SQ [OG 2 0,OK 4 0,OK 5 0] (.seq (SQ [OA 7 2 2,OM 8 1,OC 9 43 [7,8],OM 6 9] (SQ [OM 10 6,OJ 11 .neq 10 0] (CS 11 (SQ [OM 12 6,OK 4 0,OM 5 12] .ret)))) (SQ [OA 13 2 2,OO 14 (.eK 44 2 [.t 13]),OM 15 1,OJ 16 .mul 15 10000,OJ 17 .add 16 2120,OC 18 45 [14,17],OX 19 18 0,OX 20 18 1,OM 4 19,OM 5 20] .ret)),false⟩
theorem BC:T 12=some AL:=by kernel_rfl
def Az:bp:=⟨[.tmp 6,.tmp 7,.tmp 8],SQ [OZ 6,OK 7 0,OK 8 0] (SQ [OM 18 1,OC 19 7 [18],OM 17 19,OX 20 17 0,OX 21 17 1,OM 9 20,OM 10 21] (.seq (SQ [OM 22 10,OJ 23 .neq 22 0,OM 24 23,PU 25 0 24,OU 26 (.len (.t 25)) 24,PU 27 1 24,OU 28 (.len (.t 27)) 24,OU 29 (.bin .neq (.t 26) (.t 28)) 24,OO 30 (FX 24 29),OM 31 30,PU 32 2 31,OU 33 (.len (.t 32)) 31,OU 34 (.bin .gtr (.t 33) (IC 1024)) 31,OO 35 (FX 31 34),OM 36 35,PU 37 0 36,OU 38 (.call (.c (.fn 46 [])) [.t 37,.c (.fn 47 [])]) 36,OO 39 (FX 36 38)] (CS 39 (SQ [OZ 6,OK 7 (-1),OK 8 1] .ret))) (SQ [OM 40 0,OO 41 (.eK 10 1 [.t 40]),OM 11 41] (.seq (SQ [OM 42 2,OE 43 42,OK 44 0] (.block 0 (.loop ⟨[1,11,42,43,44],[]⟩ (SQ [OB 45 .lss 44 43] (.seq (CX 45 0) (.seq (.block 1 (SQ [OM 46 44,OI 47 3 42 44,OA 48 3 47,OO 13 (.alloc [FW,FW,.bool false]),OM 12 46,⟨none,.store 3 (.t 13) (.t 48),none⟩] (.seq (SQ [OF 49 0 13,OL 50 49,OJ 51 .lss 50 1,OM 52 51,OU 53 (.bZ 0 (.t 13)) 52,OU 54 (FZ 53) 52,PU 55 11 52,OU 56 (.len (.t 55)) 52,OU 57 (.bin .geq (.t 54) (.t 56)) 52,OO 58 (FX 52 57)] (CS 58 (SQ [OM 59 12,OZ 6,OM 7 59,OK 8 7] .ret))) (SQ [OO 14 (.fk (.c (.fn 49 [])))] (.seq (SQ [OF 60 2 13,OL 61 60] (CS 61 (.ops [OO 14 (.fk (.c (.fn 50 [])))]))) (.seq (.drawn [DM 63 14,DM 64 11,DF 65 0 13,DL 66 65,DI 67 4 64 66,DA 68 4 67,DM 69 11,DM 70 1,DF 71 0 13,DL 72 71,DI 73 1 70 72,DL 74 73,DI 75 4 69 74,DF 76 0 75,DA 77 2 76,DF 78 1 13,DL 79 78,(OO 80 (.build [FW,FW,FW,FW,FW,FW,FW] [(0,(4,.t 68)),(4,(2,.t 77)),(6,(1,.t 79))]),DP),(OO 81 (.call (.t 63) [.t 80]),DS),DM 62 81,(OX 82 62 0,DP),(OX 83 62 1,DP),(OO 15 (.alloc [FW,FW,FW,FW]),⟨.gJ,[],1,0⟩),(⟨none,.store 4 (.t 15) (.t 82),none⟩,⟨.dV,[],0,1⟩),DM 16 83]) (.seq (SQ [OM 84 16,OJ 85 .neq 84 0] (CS 85 (SQ [OM 86 12,OM 87 16,OZ 6,OM 7 86,OM 8 87] .ret))) (.ops [OM 88 11,OF 89 0 13,OL 90 89,OA 91 4 15,OI 92 4 88 90,⟨none,.store 4 (.t 92) (.t 91),none⟩])))))))) (.ops [OJ 93 .add 44 1,OM 44 93]))))))) (SQ [OM 94 11,OM 6 94,OK 7 (-1),OK 8 0] .ret))))),false⟩
theorem Cj:T 13=some Az:=by kernel_rfl
def Bv:bp:=⟨[.tmp 10],SQ [OQ 10 false] (.seq (SQ [OM 19 0,OE 20 19,OK 21 0] (.block 0 (.loop ⟨[0,1,2,3,4,20,21],[]⟩ (SQ [OB 22 .lss 21 20] (.seq (CX 22 0) (.seq (.block 1 (SQ [OM 23 21,OM 11 23] (SQ [OM 24 0,OE 25 24,OK 26 0] (.block 2 (.loop ⟨[0,1,2,3,4,11,20,21,25,26],[]⟩ (SQ [OB 27 .lss 26 25] (.seq (CX 27 2) (.seq (.block 3 (SQ [OM 28 26,OM 12 28] (.seq (.drawn [DM 30 1,DM 31 11,DI 32 1 30 31,DL 33 32,DM 34 1,DM 35 12,DI 36 1 34 35,DL 37 36,DM 38 3,(OJ 39 .add 38 1,DP),(OO 40 (.call (.c (.fn 51 [])) [.t 33,.t 37,.t 39,IC 100000]),DB),DM 29 40,(OX 41 29 0,DP),(OX 42 29 1,DP),DM 13 41,DM 14 42]) (.seq (SQ [OM 43 14,OJ 44 .neq 43 0,OM 45 44,PU 46 11 45,PU 47 12 45,OU 48 (.bin .eql (.t 46) (.t 47)) 45,OO 49 (FX 45 48),OM 50 49,PU 51 13 50,OU 52 (.bin .gtr (.t 51) (IC 1000)) 50,OO 53 (FX 50 52),OM 54 53,PU 55 4 54,PU 56 11 54,PU 57 2 54,OU 58 (.call (.t 55) [.t 56,.t 57]) 54,OU 59 (.iC (.t 58)) 54,OO 60 (FX 54 59),OM 61 60,PU 62 4 61,PU 63 12 61,PU 64 2 61,OU 65 (.call (.t 62) [.t 63,.t 64]) 61,OU 66 (.iC (.t 65)) 61,OO 67 (FX 61 66)] (CS 67 (.exit 3))) (.seq (.drawn [DM 69 0,DM 70 11,DI 71 4 69 70,DF 72 0 71,DA 73 2 72,DM 74 0,DM 75 12,DI 76 4 74 75,DF 77 0 76,DA 78 2 77,DM 79 2,(OC 80 52 [73,78,79],DB),DM 68 80,(OX 81 68 0,DP),(OX 82 68 1,DP),DM 15 81,DM 16 82]) (SQ [OM 84 0,OM 85 11,OI 86 4 84 85,OF 87 0 86,OA 88 2 87,OM 89 2,OC 90 12 [88,89],OM 83 90,OX 91 83 0,OX 92 83 1,OM 17 91,OM 18 92] (SQ [OM 93 16,OJ 94 .eql 93 0,OM 95 94,PT 96 18 95,OT 97 (.bin .eql (.t 96) (IC 0)) 95,OO 98 (FY 95 97),OM 99 98,PT 100 17 99,OT 101 (.bin .gtr (.t 100) (IC 0)) 99,OO 102 (FY 99 101),OM 103 102,PT 104 15 103,OT 105 (.iC (.t 104)) 103,OO 106 (FY 103 105)] (CS 106 (SQ [OQ 10 false] .ret))))))))) (.ops [OJ 107 .add 26 1,OM 26 107]))))))))) (.ops [OJ 108 .add 21 1,OM 21 108]))))))) (SQ [OQ 10 true] .ret)),false⟩
theorem Ce:T 14=some Bv:=by kernel_rfl
def xB:bp:=⟨[.tmp 4,.tmp 5,.tmp 6],SQ [OG 2 0,OK 4 0,OK 5 0,OK 6 0] (.seq (SQ [OA 13 2 2,OM 14 1,OC 15 43 [13,14],OM 7 15] (SQ [OM 16 7,OJ 17 .neq 16 0] (CS 17 (SQ [OM 18 7,OK 4 0,OK 5 0,OM 6 18] .ret)))) (SQ [OM 19 1,OJ 20 .mul 19 10000,OJ 21 .add 20 2120,OM 8 21] (SQ [OA 23 2 2,OO 24 (.eK 44 2 [.t 23]),OM 25 8,OJ 26 .sub 25 1100,OC 27 45 [24,26],OM 22 27,OX 28 22 0,OX 29 22 1,OM 9 28,OM 10 29] (SQ [OA 31 2 2,OO 32 (.eK 44 2 [.t 31]),OM 33 8,OJ 34 .add 33 1100,OJ 35 .add 34 1,OC 36 45 [32,35],OM 30 36,OX 37 30 0,OX 38 30 1,OM 11 37,OM 12 38] (.seq (SQ [OM 39 10,OJ 40 .neq 39 0,OM 41 40,PU 42 12 41,OU 43 (.bin .neq (.t 42) (IC 0)) 41,OO 44 (FX 41 43)] (CS 44 (SQ [OK 4 0,OK 5 0,OK 6 15] .ret))) (SQ [OM 45 9,OM 46 11,OJ 47 .sub 46 1,OM 4 45,OM 5 47,OK 6 0] .ret)))))),false⟩
theorem yk:T 39=some xB:=by kernel_rfl
def BN:bp:=⟨[.tmp 4,.tmp 5],SQ [OO 4 (.fk (.c (.int .u64 0))),OO 5 (.fk (.c (.int .u64 0)))] (.seq (.cond (.c (.bool false)) (SQ [OM 11 0,OO 12 (.dX .u32 (.t 11)),OM 13 1,OO 14 (.dX .u32 (.t 13)),OC 15 90 [12,14],OM 10 15,OX 16 10 0,OX 17 10 1,OM 6 16,OM 7 17] (SQ [OM 18 6,OO 19 (.dX .u64 (.t 18)),OM 20 7,OO 21 (.dX .u64 (.t 20)),OM 4 19,OM 5 21] .ret)) .skip) (SQ [OM 23 0,OM 24 1,OC 25 91 [23,24],OM 22 25,OX 26 22 0,OX 27 22 1,OM 8 26,OM 9 27] (SQ [OM 28 8,OM 29 9,OM 4 28,OM 5 29] .ret))),false⟩
theorem v7:T 42=some BN:=by kernel_rfl
def wo:bp:=⟨[.tmp 4],SQ [OG 2 0,OK 4 0] (.seq (.block 0 (SQ [OA 6 2 2,OC 7 92 [6],OJ 8 .neq 7 0,OM 5 8] (.cond (.t 5) (SQ [OK 4 1] .ret) (SQ [OM 10 1,OJ 11 .lss 10 0,OM 12 11,PU 13 1 12,OU 14 (.bin .gtr (.t 13) (IC 109951162)) 12,OO 15 (FX 12 14),OM 9 15] (CS 9 (SQ [OK 4 2] .ret)))))) (SQ [OK 4 0] .ret)),false⟩
theorem yQ:T 43=some wo:=by kernel_rfl
def Bo:bp:=⟨[.cell 2 true 1],SQ [OG 1 0,OO 2 (.alloc [.eL])] (SQ [OO 3 (.kL 93 [.t 1]),OO 4 (.build [.eL] [(0,(1,.t 3))]),⟨none,.store 1 (.t 2) (.t 4),none⟩] .ret),false⟩
theorem BJ:T 44=some Bo:=by kernel_rfl
def AY:bp:=⟨[.tmp 4,.tmp 5],SQ [OG 2 0,OG 3 1,OK 4 0,OK 5 0] (.seq (.seq (.drawn [DF 6 0 2,DL 7 6,(OO 8 (.call (.t 7) [IC 1099511627776]),DS),DL 9 3,DD 10 .lss 8 9]) (CS 10 (SQ [OK 4 0,OK 5 15] .ret))) (SQ [OO 11 (.kL 96 [.t 2,.t 3]),OO 12 (.call (.c (.fn 95 [])) [IC 1099511627776,.t 11]),OM 4 12,OK 5 0] .ret)),false⟩
theorem B5:T 45=some AY:=by kernel_rfl
def Ca:bp:=⟨[.tmp 4],SQ [OQ 4 false] (SQ [OM 5 0,OM 6 1,OC 7 97 [5,6],OJ 8 .geq 7 0,OM 4 8] .ret),false⟩
theorem BV:T 46=some Ca:=by kernel_rfl
def Bw:bp:=⟨[.tmp 2],SQ [OG 1 0,OQ 2 false] (SQ [OA 3 4 1,OC 4 48 [3],OJ 5 .neq 4 0,OM 2 5] .ret),false⟩
theorem BP:T 47=some Bw:=by kernel_rfl
def A6:bp:=⟨[.tmp 2],SQ [OG 1 0,OK 2 0] (SQ [OF 4 2 1,OL 5 4,OJ 6 .eql 5 (-1),OM 3 6] (.seq (SQ [OF 7 0 1,OA 8 2 7,OC 9 92 [8],OJ 10 .neq 9 0,OM 11 10,PU 12 3 11,OU 13 (.iC (.t 12)) 11,PU 14 13 11,OT 15 (.bZ 2 (.t 1)) 14,OT 16 (FZ 15) 14,OT 17 (.call (.c (.fn 98 [])) [.t 16]) 14,OT 18 (.iC (.t 17)) 14,OU 19 (FY 14 18) 11,OO 20 (FX 11 19),OM 21 20,OU 22 (.bZ 3 (.t 1)) 21,OU 23 (FZ 22) 21,OU 24 (.bin .lss (.t 23) (IC 0)) 21,OO 25 (FX 21 24),OM 26 25,OU 27 (.bZ 3 (.t 1)) 26,OU 28 (FZ 27) 26,OU 29 (.bin .gtr (.t 28) (IC 4096)) 26,OO 30 (FX 26 29),OM 31 30,OU 32 (.bZ 3 (.t 1)) 31,OU 33 (FZ 32) 31,OU 34 (.bin .eql (.t 33) (IC 0)) 31,PU 35 3 31,OU 36 (.mz .neq (.t 34) (.t 35)) 31,OO 37 (FX 31 36)] (CS 37 (SQ [OK 2 1] .ret))) (SQ [OK 2 0] .ret))),false⟩
theorem B9:T 48=some A6:=by kernel_rfl
def zy:bp:=⟨[.cell 2 true 4,.tmp 3],SQ [OG 1 0,OO 2 (.alloc [FW,FW,FW,FW]),OK 3 0] (SQ [OF 7 4 1,OA 8 2 7,OF 9 6 1,OL 10 9,OC 11 12 [8,10],OM 6 11,OX 12 6 0,OX 13 6 1,OM 4 12,OM 5 13] (.seq (SQ [OM 14 5,OJ 15 .neq 14 0] (CS 15 (SQ [OO 16 (.build [FW,FW,FW,FW] []),OM 17 5,⟨none,.store 4 (.t 2) (.t 16),none⟩,OM 3 17] .ret))) (SQ [OF 18 0 1,OA 19 4 18,OF 20 6 1,OL 21 20,OM 22 4,OC 23 99 [19,21,22],OX 24 23 0,OX 25 23 1,⟨none,.store 4 (.t 2) (.t 24),none⟩,OM 3 25] .ret))),false⟩
theorem Cp:T 49=some zy:=by kernel_rfl
def xO:bp:=⟨[.cell 2 true 4,.tmp 3],SQ [OG 1 0,OO 2 (.alloc [FW,FW,FW,FW]),OK 3 0] (SQ [OF 8 0 1,OF 9 0 8,OA 10 2 9,OF 11 6 1,OL 12 11,OC 13 12 [10,12],OM 7 13,OX 14 7 0,OX 15 7 1,OM 4 14,OM 5 15] (.seq (SQ [OM 16 5,OJ 17 .neq 16 0] (CS 17 (SQ [OO 18 (.build [FW,FW,FW,FW] []),OM 19 5,⟨none,.store 4 (.t 2) (.t 18),none⟩,OM 3 19] .ret))) (SQ [OF 21 4 1,OA 22 2 21,OF 23 6 1,OL 24 23,OM 25 4,OC 26 100 [22,24,25],OM 20 26,OX 27 20 0,OX 28 20 1,OM 6 27,OM 5 28] (.seq (SQ [OM 29 5,OJ 30 .neq 29 0] (CS 30 (SQ [OO 31 (.build [FW,FW,FW,FW] []),OM 32 5,⟨none,.store 4 (.t 2) (.t 31),none⟩,OM 3 32] .ret))) (SQ [OF 33 0 1,OA 34 4 33,OF 35 6 1,OL 36 35,OM 37 6,OC 38 101 [34,36,37],OX 39 38 0,OX 40 38 1,⟨none,.store 4 (.t 2) (.t 39),none⟩,OM 3 40] .ret))))),false⟩
theorem Cu:T 50=some xO:=by kernel_rfl
def Bt:bp:=⟨[.tmp 8,.tmp 9],SQ [OK 8 0,OK 9 0] (SQ [OM 11 0,OM 12 1,OM 13 3,OO 14 (.build [FW,FW,FW] [(0,(1,.t 11)),(1,(1,.t 12)),(2,(1,.t 13))]),OO 10 (.alloc [FW,FW,FW]),⟨none,.store 3 (.t 10) (.t 14),none⟩] (SQ [OA 15 3 10,OA 16 3 10,OO 17 (.jA 103 [.t 16]),OM 18 2,OC 19 102 [15,17,18],OX 20 19 0,OX 21 19 1,OM 8 20,OM 9 21] .ret)),false⟩
theorem Cm:T 51=some Bt:=by kernel_rfl
def ye:bp:=⟨[.tmp 6,.tmp 7],SQ [OG 3 0,OG 4 1,OQ 6 false,OK 7 0] (SQ [OA 13 2 3,OA 14 2 4,OM 15 2,OC 16 104 [13,14,15],OM 12 16,OX 17 12 0,OX 18 12 1,OX 19 12 2,OX 20 12 3,OM 8 17,OM 9 18,OM 10 19,OM 11 20] (SQ [OM 21 11,OJ 22 .eql 21 0,OM 23 22,PT 24 8 23,PT 25 9 23,OT 26 (.bin .geq (.t 24) (.t 25)) 23,OO 27 (FY 23 26),OM 28 27,PT 29 8 28,PT 30 10 28,OT 31 (.bin .leq (.t 29) (.t 30)) 28,OO 32 (FY 28 31),OM 33 11,OM 6 32,OM 7 33] .ret)),false⟩
theorem BU:T 52=some ye:=by kernel_rfl
def Be:bp:=⟨[.tmp 2],SQ [OG 1 0,OK 2 0] (.seq (SQ [OF 3 0 1,OL 4 3,OJ 5 .gtr 4 1099511627776,OM 6 5,OU 7 (.bZ 0 (.t 1)) 6,OU 8 (FZ 7) 6,OU 9 (.bin .lss (.t 8) (IC (-1099511627776))) 6,OO 10 (FX 6 9),OM 11 10,OU 12 (.bZ 1 (.t 1)) 11,OU 13 (FZ 12) 11,OU 14 (.bin .lss (.t 13) (IC (-100000))) 11,OO 15 (FX 11 14),OM 16 15,OU 17 (.bZ 1 (.t 1)) 16,OU 18 (FZ 17) 16,OU 19 (.bin .gtr (.t 18) (IC 100000)) 16,OO 20 (FX 16 19)] (CS 20 (SQ [OK 2 1] .ret))) (SQ [OK 2 0] .ret)),false⟩
theorem Ch:T 92=some Be:=by kernel_rfl
def Bc:bp:=⟨[.tmp 3],SQ [OK 3 0] (.seq (.drawn [DF 4 0 1,DL 5 4,DM 6 0,DD 7 .add 5 6,DM 8 0,DF 9 1 1,DL 10 9,DD 11 .mul 8 10,(OO 12 (.call (.c (.fn 94 [])) [.t 11,IC 1000000000]),DS),DD 13 .add 7 12,DM 3 13]) .ret),false⟩
theorem Cn:T 93=some Bc:=by kernel_rfl
def Bx:bp:=⟨[.tmp 4],SQ [OK 4 0] (SQ [OM 6 0,OM 7 1,OB 8 .quo 6 7,OM 5 8] (.seq (SQ [OM 9 0,OM 10 1,OB 11 .rem 9 10,OJ 12 .lss 11 0] (CS 12 (.ops [OM 13 5,OJ 14 .sub 13 1,OM 5 14]))) (SQ [OM 15 5,OM 4 15] .ret))),false⟩
theorem Cd:T 94=some Bx:=by kernel_rfl
def Bm:bp:=⟨[.tmp 4],SQ [OK 4 0] (SQ [OM 8 0,OK 5 0,OM 6 8] (.seq (.block 0 (.loop ⟨[1,5,6],[]⟩ (.seq (SQ [OM 9 5,OM 10 6,OB 11 .lss 9 10] (CX 11 0)) (.block 1 (SQ [OM 12 5,OM 13 6,OB 14 .add 12 13,OO 15 (.dX .u64 (.t 14)),OO 16 (.bin .shr (.t 15) (.c (.int .u64 1))),OO 17 (.dX .i64 (.t 16)),OM 7 17] (SQ [OM 18 1,OM 19 7,OO 20 (.call (.t 18) [.t 19]),OH 21 20] (.cond (.t 21) (.ops [OM 22 7,OJ 23 .add 22 1,OM 5 23]) (.ops [OM 24 7,OM 6 24])))))))) (SQ [OM 25 5,OM 4 25] .ret))),false⟩
theorem Ct:T 95=some Bm:=by kernel_rfl
def Bf:bp:=⟨[.tmp 4],SQ [OQ 4 false] (.seq (.drawn [DF 5 0 1,DL 6 5,DM 7 0,(OO 8 (.call (.t 6) [.t 7]),DS),DL 9 2,DD 10 .geq 8 9,DM 4 10]) .ret),false⟩
theorem Cr:T 96=some Bf:=by kernel_rfl
def Cb:bp:=⟨[.tmp 4],SQ [OK 4 0] (.seq (SQ [OM 6 0,OE 7 6,OK 8 0] (.block 0 (.loop ⟨[0,1,7,8],[]⟩ (SQ [OB 9 .lss 8 7] (.seq (CX 9 0) (.seq (.block 1 (SQ [OM 10 8,OM 5 10] (SQ [OM 11 1,OM 12 0,OM 13 5,OI 14 4 12 13,OA 15 4 14,OO 16 (.call (.t 11) [.t 15])] (CS 16 (SQ [OM 17 5,OM 4 17] .ret))))) (.ops [OJ 18 .add 8 1,OM 8 18]))))))) (SQ [OK 4 (-1)] .ret)),false⟩
theorem BD:T 97=some Cb:=by kernel_rfl
def Bl:bp:=⟨[.tmp 2],SQ [OQ 2 false] (SQ [OM 3 0,OJ 4 .geq 3 0,OM 5 4,PT 6 0 5,OT 7 (.bin .leq (.t 6) (IC 109951162)) 5,OO 8 (FY 5 7),OM 2 8] .ret),false⟩
theorem BE:T 98=some Bl:=by kernel_rfl
def xL:bp:=⟨[.cell 6 true 4,.tmp 7],SQ [OG 3 0,OO 6 (.alloc [FW,FW,FW,FW]),OK 7 0] (.seq (SQ [OA 11 4 3,OC 12 48 [11],OM 8 12] (SQ [OM 13 8,OJ 14 .neq 13 0] (CS 14 (SQ [OO 15 (.build [FW,FW,FW,FW] []),OM 16 8,⟨none,.store 4 (.t 6) (.t 15),none⟩,OM 7 16] .ret)))) (SQ [OF 18 0 3,OA 19 2 18,OM 20 1,OM 21 2,OC 22 100 [19,20,21],OM 17 22,OX 23 17 0,OX 24 17 1,OM 9 23,OM 10 24] (.seq (SQ [OM 25 10,OJ 26 .neq 25 0] (CS 26 (SQ [OO 27 (.build [FW,FW,FW,FW] []),OM 28 10,⟨none,.store 4 (.t 6) (.t 27),none⟩,OM 7 28] .ret))) (SQ [OA 29 4 3,OM 30 1,OM 31 9,OO 32 (.mF (.t 31)),OC 33 157 [29,30,32],OX 34 33 0,OX 35 33 1,⟨none,.store 4 (.t 6) (.t 34),none⟩,OM 7 35] .ret)))),false⟩
theorem B8:T 99=some xL:=by kernel_rfl
def pI:bp:=⟨[.tmp 6,.tmp 7],SQ [OG 3 0,OK 6 0,OK 7 0] (.seq (.block 0 (SQ [OA 11 2 3,OC 12 92 [11],OJ 13 .neq 12 0,OM 10 13] (.cond (.t 10) (SQ [OK 6 0,OK 7 1] .ret) (SQ [OM 15 1,OC 16 98 [15],OH 17 16,OM 18 17,PU 19 2 18,OU 20 (.bin .lss (.t 19) (IC 0)) 18,OO 21 (FX 18 20),OM 22 21,PU 23 2 22,OU 24 (.bin .gtr (.t 23) (IC 1099511627776)) 22,OO 25 (FX 22 24),OM 14 25] (CS 14 (SQ [OK 6 0,OK 7 2] .ret)))))) (SQ [OA 27 2 3,OM 28 2,OC 29 158 [27,28],OM 26 29,OX 30 26 0,OX 31 26 1,OM 8 30,OM 9 31] (SQ [OM 32 8,OM 33 1,OJ 34 .mul 33 10000,OJ 35 .add 34 2120,OB 36 .sub 32 35,OM 6 36,OK 7 0] .ret))),false⟩
theorem zc:T 100=some pI:=by kernel_rfl
def sP:bp:=⟨[.cell 6 true 4,.tmp 7],SQ [OG 3 0,OO 6 (.alloc [FW,FW,FW,FW]),OK 7 0] (.seq (.block 0 (SQ [OA 9 4 3,OC 10 48 [9],OJ 11 .neq 10 0,OM 8 11] (.cond (.t 8) (SQ [OO 12 (.build [FW,FW,FW,FW] []),⟨none,.store 4 (.t 6) (.t 12),none⟩,OK 7 1] .ret) (SQ [OM 14 1,OC 15 98 [14],OH 16 15,OM 13 16] (CS 13 (SQ [OO 17 (.build [FW,FW,FW,FW] []),⟨none,.store 4 (.t 6) (.t 17),none⟩,OK 7 2] .ret)))))) (SQ [OA 18 4 3,OM 19 1,OM 20 2,OC 21 157 [18,19,20],OX 22 21 0,OX 23 21 1,⟨none,.store 4 (.t 6) (.t 22),none⟩,OM 7 23] .ret)),false⟩
theorem A8:T 101=some sP:=by kernel_rfl
def xe:bp:=⟨[.tmp 6,.tmp 7],SQ [OG 3 0,OK 6 0,OK 7 0] (.seq (SQ [OA 8 3 3,OC 9 159 [8],OH 10 9,OM 11 10,PU 12 2 11,OU 13 (.call (.c (.fn 160 [])) [.t 12,IC 4096]) 11,OU 14 (.iC (.t 13)) 11,OO 15 (FX 11 14)] (CS 15 (SQ [OK 6 0,OK 7 2] .ret))) (SQ [OM 16 1,OM 17 2,OO 18 (.call (.t 16) [.t 17]),OM 6 18,OK 7 0] .ret)),false⟩
theorem AB:T 102=some xe:=by kernel_rfl
def xd:bp:=⟨[.tmp 4],SQ [OG 2 0,OK 4 0] (.seq (.drawn [DF 5 0 2,DL 6 5,DF 7 1 2,DL 8 7,DD 9 .add 6 8,DA 10 3 2,DM 11 1,(OC 12 161 [10,11],DS),DD 13 .mul 9 12,DM 4 13]) .ret),false⟩
theorem Ap:T 103=some xd:=by kernel_rfl
def w9:bp:=⟨[.tmp 6,.tmp 7,.tmp 8,.tmp 9],SQ [OG 3 0,OG 4 1,OK 6 0,OK 7 0,OK 8 0,OK 9 0] (.seq (SQ [OA 11 2 3,OM 12 2,OC 13 12 [11,12],OM 10 13,OX 14 10 0,OX 15 10 1,OM 6 14,OM 9 15] (SQ [OM 16 9,OJ 17 .neq 16 0] (CS 17 (SQ [OM 18 9,OK 6 0,OK 7 0,OK 8 0,OM 9 18] .ret)))) (SQ [OA 20 2 4,OM 21 2,OC 22 39 [20,21],OM 19 22,OX 23 19 0,OX 24 19 1,OX 25 19 2,OM 7 23,OM 8 24,OM 9 25] (SQ [OM 26 6,OM 27 7,OM 28 8,OM 29 9,OM 6 26,OM 7 27,OM 8 28,OM 9 29] .ret))),false⟩
theorem Ae:T 104=some w9:=by kernel_rfl
end Go.Sh
