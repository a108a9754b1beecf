/- A part of the proof: texts Ktfnc, Ktfne, Ktfnf. -/
import Derived.Test.YtlkjiffohmkidaaGreatB17
namespace Go.Sh
set_option linter.unusedSectionVars false
set_option linter.unnecessarySimpa false
set_option linter.unusedSimpArgs false
set_option linter.unusedVariables false
set_option maxRecDepth 100000
set_option maxHeartbeats 4000000
section
namespace F
abbrev By:=List Nat×Bool
abbrev wP(N:List Nat):List (List SV):=N.map fun(x:Nat)=>[.int .u8 (x:Int)]
abbrev FX(Y:List By):List (List SV):=Y.map fun y=>[.aB 1 (wP y.1) y.2]
structure Lw(P:List ByteArray)(c l:Int)(a b:ByteArray)(p r:Int)(X D:ByteArray)(m cc K:Nat):Prop where
 th:th P=true
 hq:∀q∈P,q.size≤9223372036854775807
 uv:uv c l a b p r X.size=true
 hX:X.size≤600
 hD:D=fv (ld P c l a b p r X.size)++X
 hF:Fit cc D.size m K
 hm:m≤100
abbrev yM(c l:Int)(a b:ByteArray)(p r:Int)(X:ByteArray)(m:Nat):List SV:=[Ru c,Ru l,.str a,.str b,Ru p,Ru r,Ru X.size,.str X,Ru m]
section
variable{P:List ByteArray}{c l:Int}{a b:ByteArray}{p r:Int}{X D:ByteArray}{m cc K:Nat}(h:Lw P c l a b p r X D m cc K)
theorem AL{B i:Nat}(hB:B<2 ^ cc)(hi:i<cc)(hb:B.testBit i=false):yT D cc B i=bif decide (cn (B|||2 ^ i) cc=0)then .ax [.str D,.bool true,Rv]else .ax [.str ⟨⟨[]⟩⟩,.bool false,Rv]:=by
 have h1:¬B=2 ^ cc-1:=fun e=>by rw[gS e hi]at hb;cases hb
 have h2:decide (cn (B|||2 ^ i) cc=0)=decide (B|||2 ^ i=2 ^ cc-1):=by rw[PD];exact mK (nj hB hi)
 unfold yT
 rw[NQ h1,Pz,h2]
 cases decide (B|||2 ^ i=2 ^ cc-1)<;>rfl
theorem qe{B i:Nat}(hb:B.testBit i=true):B|||2 ^ i=B:=by
 apply Qa
 intro j
 rw[mg]
 by_cases e:i=j
 ·subst e;rw[hb];rfl
 ·rw[NQ e,Q5]
theorem zn{B i:Nat}(hb:B.testBit i=true):yT D cc B i=.ax [.str ⟨⟨[]⟩⟩,.bool false,Rv]:=by
 unfold yT
 rw[qe hb]
 cases decide (B=2 ^ cc-1)<;>rfl
end
end F
end
section
namespace F
abbrev MH:bO:=(SQ [OB 160 .lss 159 158] (.seq (CX 160 4) (.seq (.block 5 (SQ [OM 161 159,OM 23 161] (SQ [OM 163 21,OC 164 33 [163],OM 162 164,OX 165 162 0,OX 166 162 1,OO 24 (.alloc [Rv,Rv,Rv,Rv,Rv,Rv,Rv,Rv,Rv,Rv,Rv,.str (.mk (.mk []))]),⟨none,.store 12 (.t 24) (.t 165),none⟩,OM 25 166] (SQ [OF 168 11 24,OL 169 168,OC 170 34 [169],OM 167 170,OX 171 167 0,OX 172 167 1,OO 26 (.alloc [Rv,Rv,Rv,Rv,.str (.mk (.mk []))]),⟨none,.store 5 (.t 26) (.t 171),none⟩,OM 27 172] (SQ [OM 174 11,OM 175 15,OA 176 5 26,OO 177 (.dL 35 9 [.t 174,.t 175,.t 176]),OM 173 177,OX 178 173 0,OX 179 173 1,OX 180 173 2,OM 28 178,OM 29 179,OM 30 180] (.seq (SQ [OM 181 25,OJ 182 .neq 181 0,OM 183 182,PU 184 27 183,OU 185 (.bin .neq (.t 184) (IC 0)) 183,OO 186 (.pick (.t 183) (.c (.bool true)) (.t 185)),OM 187 186,PU 188 30 187,OU 189 (.bin .neq (.t 188) (IC 0)) 187,OO 190 (.pick (.t 187) (.c (.bool true)) (.t 189))] (CS 190 (SQ [OQ 6 false] .ret))) (.seq (SQ [OM 191 23,OO 192 (.bin .eql (.t 191) (.c (.int .u8 0)))] (CS 192 (.ops [OM 193 19,OJ 194 .sub 193 1,OM 19 194]))) (.seq (SQ [OM 195 29,OM 196 19,OJ 197 .eql 196 0,OM 198 197,PT 199 23 198,OT 200 (.bin .eql (.t 199) (.c (.int .u8 0))) 198,OO 201 (.pick (.t 198) (.t 200) (.c (.bool false))),OO 202 (.mP .neq (.t 195) (.t 201))] (CS 202 (SQ [OQ 6 false] .ret))) (SQ [OM 203 29] (CS 203 (SQ [OM 204 14,OJ 205 .add 204 1,OM 14 205] (SQ [OM 207 0,OC 208 28 [207],OM 209 28,OC 210 36 [208,209],OM 206 210,OX 211 206 0,OX 212 206 1,OX 213 206 2,OO 31 (.alloc [Rv,Rv,.str (.mk (.mk [])),.str (.mk (.mk [])),Rv,Rv,Rv]),⟨none,.store 7 (.t 31) (.t 211),none⟩,OM 32 212,OM 33 213] (SQ [OM 214 33,OJ 215 .neq 214 0,OM 216 215,OU 217 (.load true 7 (.t 31)) 216,OU 218 (.aH 0 (.t 4)) 216,OU 219 (.load true 7 (.t 218)) 216,OU 220 (.fN true [.i,.i,.s,.s,.i,.i,.i] (.t 217) (.t 219)) 216,OO 221 (.pick (.t 216) (.c (.bool true)) (.t 220)),OM 222 221,PU 223 32 222,OU 224 (.aH 7 (.t 4)) 222,OU 225 (.load false 1 (.t 224)) 222,OU 226 (.bin .neq (.t 223) (.t 225)) 222,OO 227 (.pick (.t 222) (.c (.bool true)) (.t 226))] (CS 227 (SQ [OQ 6 false] .ret))))))))))))))) (.ops [OO 228 (.bin .add (.t 159) (.c (.int .u8 1))),OM 159 228]))))
abbrev HH:bO:=(SQ [OB 145 .lss 144 143] (.seq (CX 145 2) (.seq (.block 3 (SQ [OM 146 144,OI 147 1 142 144,OL 148 147,OM 20 146,OM 21 148] (SQ [OO 22 (.cp (.c (.int .u8 0)))] (.seq (SQ [OM 149 20,OM 150 16,OE 151 150,OB 152 .lss 149 151] (CS 152 (.ops [OM 153 16,OM 154 20,OI 155 1 153 154,OL 156 155,OO 157 (.bin .rem (.t 156) (.c (.int .u8 3))),OM 22 157]))) (SQ [OM 158 22,OO 159 (.cp (.c (.int .u8 0)))] (.block 4 (.loop ⟨[999999,0,4,9,11,13,14,15,16,19,21,125,126,127,142,143,144,158,159],[]⟩ (SQ [OB 160 .lss 159 158] (.seq (CX 160 4) (.seq (.block 5 (SQ [OM 161 159,OM 23 161] (SQ [OM 163 21,OC 164 33 [163],OM 162 164,OX 165 162 0,OX 166 162 1,OO 24 (.alloc [Rv,Rv,Rv,Rv,Rv,Rv,Rv,Rv,Rv,Rv,Rv,.str (.mk (.mk []))]),⟨none,.store 12 (.t 24) (.t 165),none⟩,OM 25 166] (SQ [OF 168 11 24,OL 169 168,OC 170 34 [169],OM 167 170,OX 171 167 0,OX 172 167 1,OO 26 (.alloc [Rv,Rv,Rv,Rv,.str (.mk (.mk []))]),⟨none,.store 5 (.t 26) (.t 171),none⟩,OM 27 172] (SQ [OM 174 11,OM 175 15,OA 176 5 26,OO 177 (.dL 35 9 [.t 174,.t 175,.t 176]),OM 173 177,OX 178 173 0,OX 179 173 1,OX 180 173 2,OM 28 178,OM 29 179,OM 30 180] (.seq (SQ [OM 181 25,OJ 182 .neq 181 0,OM 183 182,PU 184 27 183,OU 185 (.bin .neq (.t 184) (IC 0)) 183,OO 186 (.pick (.t 183) (.c (.bool true)) (.t 185)),OM 187 186,PU 188 30 187,OU 189 (.bin .neq (.t 188) (IC 0)) 187,OO 190 (.pick (.t 187) (.c (.bool true)) (.t 189))] (CS 190 (SQ [OQ 6 false] .ret))) (.seq (SQ [OM 191 23,OO 192 (.bin .eql (.t 191) (.c (.int .u8 0)))] (CS 192 (.ops [OM 193 19,OJ 194 .sub 193 1,OM 19 194]))) (.seq (SQ [OM 195 29,OM 196 19,OJ 197 .eql 196 0,OM 198 197,PT 199 23 198,OT 200 (.bin .eql (.t 199) (.c (.int .u8 0))) 198,OO 201 (.pick (.t 198) (.t 200) (.c (.bool false))),OO 202 (.mP .neq (.t 195) (.t 201))] (CS 202 (SQ [OQ 6 false] .ret))) (SQ [OM 203 29] (CS 203 (SQ [OM 204 14,OJ 205 .add 204 1,OM 14 205] (SQ [OM 207 0,OC 208 28 [207],OM 209 28,OC 210 36 [208,209],OM 206 210,OX 211 206 0,OX 212 206 1,OX 213 206 2,OO 31 (.alloc [Rv,Rv,.str (.mk (.mk [])),.str (.mk (.mk [])),Rv,Rv,Rv]),⟨none,.store 7 (.t 31) (.t 211),none⟩,OM 32 212,OM 33 213] (SQ [OM 214 33,OJ 215 .neq 214 0,OM 216 215,OU 217 (.load true 7 (.t 31)) 216,OU 218 (.aH 0 (.t 4)) 216,OU 219 (.load true 7 (.t 218)) 216,OU 220 (.fN true [.i,.i,.s,.s,.i,.i,.i] (.t 217) (.t 219)) 216,OO 221 (.pick (.t 216) (.c (.bool true)) (.t 220)),OM 222 221,PU 223 32 222,OU 224 (.aH 7 (.t 4)) 222,OU 225 (.load false 1 (.t 224)) 222,OU 226 (.bin .neq (.t 223) (.t 225)) 222,OO 227 (.pick (.t 222) (.c (.bool true)) (.t 226))] (CS 227 (SQ [OQ 6 false] .ret))))))))))))))) (.ops [OO 228 (.bin .add (.t 159) (.c (.int .u8 1))),OM 159 228]))))))))))) (.ops [OJ 229 .add 144 1,OM 144 229]))))
abbrev eK(P:List ByteArray)(f1:Bool)(D:ByteArray)(m cc:Nat)(v13:SV)(tm j:Nat)(v16:SV)(left:Nat)(fb:ByteArray)(v125 v126 v127 v142 v143 v144:SV)(w k:Nat):Env:=
 [(0,.aB 1 (fx P) f1),(4,.ptr 0 0 0 0),(9,.aB 5 (pD D m cc cc) false),(11,.ptr 2 0 0 0),(13,v13),(14,Ru tm),(15,Ru j),(16,v16),(19,Ru left),(21,.str fb),(125,v125),(126,v126),(127,v127),(142,v142),(143,v143),(144,v144),(158,.int .u8 w),(159,.int .u8 k)]
theorem zR{A:Type}[DecidableEq A](a:A):decide (a=a)=true:=NN rfl
theorem Cu{B i cc:Nat}(hB:B<2 ^ cc)(hi:i<cc)(hb:B.testBit i=false)(h:¬cn (B|||2 ^ i) cc=0):oe (B|||2 ^ i) cc=oe B cc:=by
 have h1:¬B=2 ^ cc-1:=fun e=>by rw[gS e hi]at hb;cases hb
 have h2:¬B|||2 ^ i=2 ^ cc-1:=fun e=>h ((mK (nj hB hi)).2 e)
 unfold oe
 rw[NQ h1,NQ h2]
theorem zu{B i cc:Nat}(hB:B<2 ^ cc)(hi:i<cc)(hb:B.testBit i=false)(h:cn (B|||2 ^ i) cc=0):bX ((oe B cc:Nat)+1)=((oe (B|||2 ^ i) cc:Nat):Int):=by
 have h1:¬B=2 ^ cc-1:=fun e=>by rw[gS e hi]at hb;cases hb
 have h2:=(mK (nj hB hi)).1 h
 unfold oe
 rw[NQ h1,NN h2];rfl
section
variable{P:List ByteArray}{c l:Int}{a b:ByteArray}{p r:Int}{X D:ByteArray}{m cc K:Nat}(h:Lw P c l a b p r X D m cc K)
include h
theorem LQ{R:Type}{Q:R→Prop}{kk:Out→Option R}{N:Nat}{H0:ae}{e:Env}{bl:List aj}{es:List (Nat×Nat)}{B tt i j q w:Nat}{f1:Bool}{v13 v16 v125 v126 v127 v142 v143 v144:SV}
 (hi:i<cc) (hb:B.testBit i=false) (hB:B<2 ^ cc) (hw2:w≤2) (hH:HI (yM c l a b p r X m) D m cc B tt bl) (htt:tt≤j) (hj:j≤1000) (hq:q≤255)
 (he:eo [0,4,9,11,13,14,15,16,19,21,125,126,127,142,143,144,158,159] e=eK P f1 D m cc v13 (oe B cc) j v16 (cn B cc) (fA (sU D m cc q i)) v125 v126 v127 v142 v143 v144 w 0)
 (hend:∀bl' es' B' tt',(w=0∧B'=B∨0<w∧B'=B|||2 ^ i)→HI (yM c l a b p r X m) D m cc B' tt' bl'→tt'≤j→
  post (kk (.exit 4,(160,.bool false)::eK P f1 D m cc v13 (oe B' cc) j v16 (cn B' cc) (fA (sU D m cc q i)) v125 v126 v127 v142 v143 v144 w w,⟨bl',es',0⟩)) Q) :
 post (ay (iG (eT ⟨[999999,0,4,9,11,13,14,15,16,19,21,125,126,127,142,143,144,158,159],[]⟩ N H0 (ab T 60) MH) (e,⟨bl,es,0⟩)) kk ()) Q:=by
 have hF:=h.hF
 have hc2:=hF.c2
 have hor:=nj hB hi
 refine nR (fun k s=>∃bl' es' B' tt',(k=0∧B'=B∨0<k∧B'=B|||2 ^ i)∧HI (yM c l a b p r X m) D m cc B' tt' bl'∧tt'≤j∧s=(eK P f1 D m cc v13 (oe B' cc) j v16 (cn B' cc) (fA (sU D m cc q i)) v125 v126 v127 v142 v143 v144 w k,⟨bl',es',0⟩)) w ?_ ?_
 ·exact dt (cM rfl rfl) ⟨bl,es,B,tt,.inl ⟨rfl,rfl⟩,hH,htt,congrArg (·,(⟨bl,es,0⟩:ae)) he⟩
 ·rintro k s hk ⟨bl1,es1,B1,tt1,hcase,hH1,ht1,rfl⟩
  rcases Oh k w with hlt|hge
  ·have hx:decide ((k:Int)<(w:Int))=true:=NN (by omega)
   have h33:=fun H=>BM 52 H (k:=q) hF h.hm hi hq
   have h34:=fun H=>MM 56 H i cc D.size m K (jE D m i) hF hi (fL hF hi)
   have hB1:B1<2 ^ cc:=by rcases hcase with⟨_,rfl⟩|⟨_,rfl⟩<;>assumption
   obtain⟨bl2,es2,h35,hH2⟩:=Nh hF (hH1.app [.box (fr 4 1 2 0 (q:Nat) 0 0 0 0 0 0 (pc i cc D.size (jE D m i))),.box (fo D m cc i)]) hB1 hi ht1 hj 57
   have hwk:IntKind.u8.wrap ((k:Int)+1)=((k+1:Nat):Int):=by rw[jK (by omega) (by omega)];omega
   rcases hcase with⟨rfl,rfl⟩|⟨hk0,rfl⟩
   ·have hcn:=Aa hb cc hi
    have hwl:bX ((cn B1 cc:Int)-1)=((cn (B1|||2 ^ i) cc:Nat):Int):=by have:=vA B1 cc;rw[an (by omega) (by omega)];omega
    have hdn:=AL (D:=D) hB hi hb
    have hx0:decide ((0:Int)<(w:Int))=true:=NN (by omega)
    have hu1:IntKind.u8.wrap 1=1:=by decide
    have hk00:decide (((0:Nat):Int)=0)=true:=by decide
    have hle:decide (((cn (B1|||2 ^ i) cc:Nat):Int)=0)=decide (cn (B1|||2 ^ i) cc=0):=by rw[PD];omega
    rw[hdn]at h35
    cases hd:decide (cn (B1|||2 ^ i) cc=0)with
    |false=>
     rw[hd]at hle h35
     simp only[go_sem,simprocAttr,hx0,hu1,h33,h34,h35,hwl,hle,hwk,a8,aF,bb,aZ,aP,aN,aO,aM,cu,bK,cx,bH,bI,bN,bn,bJ,bk,bm,aS,bp,ew,eu,NR,NO,N9]
     exact⟨hlt,dt (cM rfl rfl) ⟨bl2,_,B1|||2 ^ i,j,.inr ⟨trivial,rfl⟩,hH2,NV _,by rw[Cu hB hi hb (Re hd)];rfl⟩⟩
    |true=>
     rw[hd]at hle h35
     have h28:=fun H=>El 59 H P 1 f1 (.inl rfl) (by have:=kH h.th;omega)
     have h36:=fun H=>M6 53 H P false c l a b p r X.size X h.th h.hq h.uv (by have:=h.hX;omega)
     rw[←h.hD]at h36
     have hwt:=zu hB hi hb (PQ hd)
     have gp:=fun l=>bD hH2.1 l
     simp only[go_sem,simprocAttr,hx0,hu1,h33,h34,h35,hwl,hle,hwk,hwt,h28,h36,gp,zR,a8,aF,bb,aZ,aP,aN,aO,aM,cu,bK,cx,bH,bI,bN,bn,bJ,bk,bm,aS,bp,ew,eu,NR,NO,N9]
     exact⟨hlt,dt (cM rfl rfl) ⟨bl2++_,_,B1|||2 ^ i,j,.inr ⟨trivial,rfl⟩,hH2.app _,NV _,rfl⟩⟩
   ·have hbt:(B|||2 ^ i).testBit i=true:=by rw[mg,NN rfl,Bool.or_true]
    have hdn:=zn (D:=D) (cc:=cc) hbt
    rw[qe hbt]at hH2
    rw[hdn]at h35
    have hk00:decide ((k:Int)=0)=false:=NQ (by omega)
    cases hz:decide (((cn (B|||2 ^ i) cc:Nat):Int)=0)with
    |false=>
     simp only[go_sem,simprocAttr,hx,h33,h34,h35,hk00,hz,hwk,a8,aF,bb,aZ,aP,aN,aO,aM,cu,bK,cx,bH,bI,bN,bn,bJ,bk,bm,aS,bp,ew,eu,NR,NO,N9]
     exact⟨hlt,dt (cM rfl rfl) ⟨bl2,_,B|||2 ^ i,j,.inr ⟨by omega,rfl⟩,hH2,NV _,rfl⟩⟩
    |true=>
     simp only[go_sem,simprocAttr,hx,h33,h34,h35,hk00,hz,hwk,a8,aF,bb,aZ,aP,aN,aO,aM,cu,bK,cx,bH,bI,bN,bn,bJ,bk,bm,aS,bp,ew,eu,NR,NO,N9]
     exact⟨hlt,dt (cM rfl rfl) ⟨bl2,_,B|||2 ^ i,j,.inr ⟨by omega,rfl⟩,hH2,NV _,rfl⟩⟩
  ·obtain rfl:k=w:=by omega
   have hx:decide ((k:Int)<(k:Int))=false:=NQ (by omega)
   have hE:=hend bl1 es1 B1 tt1 hcase hH1 ht1
   simp only[go_sem,simprocAttr,hx]
   exact hE
end
end F
end
section
namespace F
abbrev eM(P:List ByteArray)(f1:Bool)(D:ByteArray)(m cc:Nat)(v13:SV)(tm j:Nat)(v16:SV)(left:Nat)(v125 v126 v127 v142 v143 v144:SV):Env:=
 [(0,.aB 1 (fx P) f1),(4,.ptr 0 0 0 0),(9,.aB 5 (pD D m cc cc) false),(11,.ptr 2 0 0 0),(13,v13),(14,Ru tm),(15,Ru j),(16,v16),(19,Ru left),(125,v125),(126,v126),(127,v127),(142,v142),(143,v143),(144,v144)]
section
variable{P:List ByteArray}{c l:Int}{a b:ByteArray}{p r:Int}{X D:ByteArray}{m cc K:Nat}(h:Lw P c l a b p r X D m cc K)
include h
theorem JF{R:Type}{Q:R→Prop}{kk:Out→Option R}{N:Nat}{H0:ae}{e:Env}{bl:List aj}{es:List (Nat×Nat)}{B0 tt j:Nat}{f1:Bool}{v13 v125 v126 v127:SV}{y:By}
 (hB:B0<2 ^ cc) (hH:HI (yM c l a b p r X m) D m cc B0 tt bl) (htt:tt≤j) (hj:j≤1000)
 (he:eo [0,4,9,11,13,14,15,16,19,125,126,127,142,143,144] e=eM P f1 D m cc v13 (oe B0 cc) j (.aB 1 (wP y.1) y.2) (cn B0 cc) v125 v126 v127 (.aB 1 (qf D m cc (pQ B0 cc) (pQ B0 cc).length) false) (Ru (pQ B0 cc).length) (Ru (0:Nat)))
 (hend:∀bl' es' B' tt',B'<2 ^ cc→(∀t,B0.testBit t=true→B'.testBit t=true)→HI (yM c l a b p r X m) D m cc B' tt' bl'→tt'≤j→
  post (kk (.exit 2,(145,.bool false)::eM P f1 D m cc v13 (oe B' cc) j (.aB 1 (wP y.1) y.2) (cn B' cc) v125 v126 v127 (.aB 1 (qf D m cc (pQ B0 cc) (pQ B0 cc).length) false) (Ru (pQ B0 cc).length) (Ru (pQ B0 cc).length),⟨bl',es',0⟩)) Q) :
 post (ay (iG (eT ⟨[999999,0,4,9,11,13,14,15,16,19,125,126,127,142,143,144],[]⟩ N H0 (ab T 60) HH) (e,⟨bl,es,0⟩)) kk ()) Q:=by
 have hF:=h.hF
 have hc2:=hF.c2
 have hIl:=tK B0 cc
 obtain⟨I,hI⟩:∃I,pQ B0 cc=I:=⟨_,rfl⟩
 rw[hI]at he hend hIl
 have hlt':∀t i,I[t]?=some i→i<cc∧B0.testBit i=false:=fun t i hti=>xj (by rw[hI];exact Ok hti)
 have hne:∀s t i,s<t→I[s]?=some i→I[t]?=some i→False:=fun s t i hst h1 h2=>Bt (B:=B0) (j:=cc) hst (by rw[hI];exact h1) (by rw[hI];exact h2)
 refine nR (fun q s=>∃bl' es' B' tt',B'<2 ^ cc∧(∀t i,q≤t→I[t]?=some i→B'.testBit i=false)∧(∀t,B0.testBit t=true→B'.testBit t=true)∧HI (yM c l a b p r X m) D m cc B' tt' bl'∧tt'≤j∧
  s=(eM P f1 D m cc v13 (oe B' cc) j (.aB 1 (wP y.1) y.2) (cn B' cc) v125 v126 v127 (.aB 1 (qf D m cc I I.length) false) (Ru I.length) (Ru q),⟨bl',es',0⟩)) I.length ?_ ?_
 ·exact dt (cM rfl rfl) ⟨bl,es,B0,tt,hB,fun t i _ hti=>(hlt' t i hti).2,fun t ht=>ht,hH,htt,congrArg (·,(⟨bl,es,0⟩:ae)) he⟩
 ·rintro q s hq ⟨bl1,es1,B1,tt1,hB1,hno,hsub,hH1,ht1,rfl⟩
  rcases Oh q I.length with hlt|hge
  ·obtain⟨i,hi⟩:∃i,I[q]?=some i:=⟨I[q],N4 hlt⟩
   obtain⟨hic,_⟩:=hlt' q i hi
   have hbi:=hno q i (NV _) hi
   have hx:decide ((q:Int)<(I.length:Int))=true:=NN (by omega)
   have h0:decide ((0:Int)≤(q:Int))=true:=NN (by omega)
   have hs1:bX ((q:Int)+1)=((q+1:Nat):Int):=by rw[an (by omega) (by omega)];omega
   have hrow:(qf D m cc I I.length)[q]?=some [.str (fA (sU D m cc q i))]:=by
    have hfx:Dj D m cc I q=fA (sU D m cc q i):=by unfold Dj;rw[hi];rfl
    rw[←hfx];simp[qf,hlt]
   have hfin:∀(w:Nat) bl' es' B' tt',(w=0∧B'=B1∨0<w∧B'=B1|||2 ^ i)→HI (yM c l a b p r X m) D m cc B' tt' bl'→tt'≤j→
    ∃bl2 es2 B2 tt2,B2<2 ^ cc∧(∀t i,q+1≤t→I[t]?=some i→B2.testBit i=false)∧(∀t,B0.testBit t=true→B2.testBit t=true)∧HI (yM c l a b p r X m) D m cc B2 tt2 bl2∧tt2≤j∧
     (eM P f1 D m cc v13 (oe B' cc) j (.aB 1 (wP y.1) y.2) (cn B' cc) v125 v126 v127 (.aB 1 (qf D m cc I I.length) false) (Ru I.length) (Ru (q+1:Nat)),(⟨bl',es',0⟩:ae))=
     (eM P f1 D m cc v13 (oe B2 cc) j (.aB 1 (wP y.1) y.2) (cn B2 cc) v125 v126 v127 (.aB 1 (qf D m cc I I.length) false) (Ru I.length) (Ru (q+1:Nat)),(⟨bl2,es2,0⟩:ae)):=by
    intro w bl' es' B' tt' hc' hH' ht'
    refine⟨bl',es',B',tt',?_,?_,?_,hH',ht',rfl⟩
    ·rcases hc' with⟨_,rfl⟩|⟨_,rfl⟩
     ·exact hB1
     ·exact nj hB1 hic
    ·intro t i' ht hti
     have h1:=hno t i' (by omega) hti
     rcases hc' with⟨_,rfl⟩|⟨_,rfl⟩
     ·exact h1
     ·have:i≠i':=fun e=>by subst e;exact hne q t i (by omega) hi hti
      rw[mg,h1,NQ this];rfl
    ·intro t ht
     have h1:=hsub t ht
     rcases hc' with⟨_,rfl⟩|⟨_,rfl⟩
     ·exact h1
     ·rw[mg,h1];rfl
   by_cases hyq:q<y.1.length
   ·obtain⟨x,hyx⟩:∃x,y.1[q]?=some x:=⟨y.1[q],N4 hyq⟩
    have dy:decide ((q:Int)<(y.1.length:Int))=true:=NN (by omega)
    have ry:(wP y.1)[q]?=some [.int .u8 (x:Int)]:=by simp[wP,hyx]
    have hm3:(x:Int).tmod 3=((x%3:Nat):Int):=by rw[Qz (by omega)];omega
    simp only[go_sem,simprocAttr,hx,h0,hrow,dy,ry,hm3,Oe,PA,N0]
    refine LQ h (i:=i) (q:=q) (w:=x%3) (B:=B1) hic hbi hB1 (by omega) hH1 ht1 hj (by omega) rfl (fun bl' es' B' tt' hc' hH' ht'=>?_)
    simp only[go_sem,simprocAttr,hs1]
    exact⟨hlt,dt (cM rfl rfl) (hfin (x%3) _ _ _ _ hc' hH' ht')⟩
   ·have dy:decide ((q:Int)<(y.1.length:Int))=false:=NQ (by omega)
    simp only[go_sem,simprocAttr,hx,h0,hrow,dy,Oe,PA,N0]
    refine LQ h (i:=i) (q:=q) (w:=0) (B:=B1) hic hbi hB1 (by omega) hH1 ht1 hj (by omega) rfl (fun bl' es' B' tt' hc' hH' ht'=>?_)
    simp only[go_sem,simprocAttr,hs1]
    exact⟨hlt,dt (cM rfl rfl) (hfin 0 _ _ _ _ hc' hH' ht')⟩
  ·obtain rfl:q=I.length:=by omega
   have hx:decide ((I.length:Int)<(I.length:Int))=false:=NQ (by omega)
   have hE:=hend bl1 es1 B1 tt1 hB1 hsub hH1 ht1
   simp only[go_sem,simprocAttr,hx]
   exact hE
end
end F
end
end Go.Sh
