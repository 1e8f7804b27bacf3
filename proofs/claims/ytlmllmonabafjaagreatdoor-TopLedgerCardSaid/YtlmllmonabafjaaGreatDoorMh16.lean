/- x -/
import Derived.Test.YtlmllmonabafjaaGreatDoorMh15
import Derived.Shelf.Strings.Split
import Derived.Shelf.Strings.OnBuilder
import Derived.Shelf.Strconv.Itoa3
import Derived.Shelf.LaysM
namespace Go.Proofs.YtlmllmonabafjaaGreatDoor
open Option renaming some->ϊ,none->ϋ
open Bool renaming true->ό,false->ύ
open Go.Value renaming bool->μ,slice->δ,pointer->π,agg->θ
open Go.IntKind renaming i64->ι,u8->υ,u16->φ,u32->ω,i32->χ,u64->ψ
open _root_.Go.Proofs.Tryz
set_option linter.all false
set_option maxHeartbeats 8000000
open Go.RowKit
set_option maxRecDepth 100000
variable {F:List Nat} {w:World} {l r:List UInt8} {pb B b cap g:Nat} {v:Value} {P:Program}
def TU (w:World):Calls prog 9 #[θ #[ι 2,ι 2,ι 1,ι 1,ι 2,ι 1]] w λe w'=> ∃R,e= .returned (.tuple #[γ R,ι 0])/\RmR w w' R tp0 []/\ql w w':=JN cfT rfl w
def Tn {Y:World} (h:Pl Y pb ϋ F w) (af:g∈F) (ao:g≠pb) (J: ∀i y,([2,2,1,1,2,1]:List Int)[i]? =ϊ y->w.cell? ⟨g,i,ϋ⟩=ϊ (ι y)):
  Calls prog 215 #[γ pb,δ (ϊ ⟨g,0,ϋ⟩) 6 cap] w λe w'=>e= .returned (ι 0)/\Pl Y pb (ϊ tp0) F w'/\PS pb F w w':=by
 have ac:w.heap[pb]? =ϊ (.cells #[π ϋ] 214 (0,0)):=h.2.2.2;have H:=κ h;have ae:=κ ac;have M:=h.lt g af;have ah: ∀x:qt w,x.w'.cell? ⟨g,0,ϋ⟩=ϊ (ι 2):=λx=>by rw[x.h.cells _ _ M];exact J 0 _ rfl
 have ai: ∀x:qt w,x.w'.cell? ⟨g,1,ϋ⟩=ϊ (ι 2):=λx=>by rw[x.h.cells _ _ M];exact J 1 _ rfl
 have aj: ∀x:qt w,x.w'.cell? ⟨g,2,ϋ⟩=ϊ (ι 1):=λx=>by rw[x.h.cells _ _ M];exact J 2 _ rfl
 have ak: ∀x:qt w,x.w'.cell? ⟨g,3,ϋ⟩=ϊ (ι 1):=λx=>by rw[x.h.cells _ _ M];exact J 3 _ rfl
 have al: ∀x:qt w,x.w'.cell? ⟨g,4,ϋ⟩=ϊ (ι 2):=λx=>by rw[x.h.cells _ _ M];exact J 4 _ rfl
 have am: ∀x:qt w,x.w'.cell? ⟨g,5,ϋ⟩=ϊ (ι 1):=λx=>by rw[x.h.cells _ _ M];exact J 5 _ rfl
 clear h ac J
 go_enter func215,ntmps215
 go_upto_region 1 with fail
 refine Qn w 26 26 [20] ?_
 refine qaC ?_
 (refine Ql ?_;intro K O)
 go_call TU _ as e w5 ⟨R,rfl,ab,ad⟩;have I:Hid (ql w w5):=κ (((ql.refl w).dr 1).trans ad);refine⟨_,rfl,qk I.o,O _ _ ?_⟩;clear O K
 iterate 5 (refine qE rfl rfl (qk I.o) ?_;intro K O;go_big_quiet_op;go_big_quiet_on)
 refine qA ?_;have aa:Hid (RmR Y w5 R tp0 F):=κ ((ab.based (Fn:=F) (H.o.2.2.1.dr 1) (λb d=>H.o.2.1 b d)).sub (λb d=>ϰ _ d));have N:=κ (qq I.o ae.o);have ap:=β0 N.o;have an:=yw N.o 0;clear ab ad;go_wp2;go_ret;have a:jt (λb=>b∈[pb]) w5 (w5.setCell ⟨pb,0,ϋ⟩ (γ R)):=(jt.refl _ _).set η _;have U:=H.o.1;refine⟨rfl,⟨U,λb d=>⟨(H.o.2.1 b d).1,ϗ (H.o.2.1 b d).2 (Ϙ I.o.size a.size)⟩,a.to_more aa.o.more (λb d=>by simp at d;subst d;exact(H.o.2.1 _ U).1),R,aa.o.mut (a.mono λb d=>by simp at d;subst d;exact U), ?_⟩,Ϙ I.o.size a.size,λb d ag=> ?_⟩
 ·have e:=N.o;simp[World.setCell,G0,e]
 ·rw[a.block b (by have:=H.o.lt b d;have:=I.o.size;omega) (λe=>by simp at e;exact ag e),I.o.block b (H.o.lt b d)]
def do0 {J:World} (h:Pl J pb ϋ F w) (U:g∈F) (Y:g≠pb) (I: ∀i y,([2,2,1,1,2,1]:List Int)[i]? =ϊ y->w.cell? ⟨g,i,ϋ⟩=ϊ (ι y)):
  Calls prog 162 #[γ pb,.string ⟨#[114,111,111,109]⟩,δ (ϊ ⟨g,0,ϋ⟩) 6 cap] w λe w'=>e= .returned (.string ⟨#[]⟩)/\Pl J pb (ϊ tp0) F w'/\PS pb F w w':=by
 have H:w.heap[pb]? =ϊ (.cells #[π ϋ] 214 (0,0)):=h.2.2.2;have aa:w.cell? ⟨pb,0,ϋ⟩=ϊ (π ϋ):=qm H 0 rfl;have N:=κ (Tn (cap:=cap) h U Y I);clear h H I
 go_enter func162,ntmps162
 go_wp2_with ((go_at_call 215;(go_call N.o as e w5 ⟨rfl,d,t5⟩;have M:=κ d;have O:=κ t5;clear d t5)))
 go_ret;exact⟨rfl,M.o,O.o⟩
def qas:uf pkT:=⟨ζ,ζ,ζ,ζ,λi=>by simp[U32,pkT],ζ,xh,Byt.of_all ζ⟩
def tkR:jJ pkT=ό:=by decide
def TK (w:World) (v:Value) (J:SlI .u8 w v [16,0]):Calls prog 37 #[θ #[μ ύ,υ 96,φ 1,ω 9,ω 7,(),ύ,φ 0,(),v]] w λe w'=>(∃v,e= .returned (.tuple #[v,ι 0])/\SlI .u8 w' v pkU)/\ql w w':=
 (gi pkT _ _ _ _ ⟨SlI.nil _ _,SlI.nil _ _,J⟩ qas tkR).mono λe w' ⟨⟨v,H,d⟩,I⟩=>⟨⟨v,H,by rw[tpB] at d;exact SlI.of_owns d ζ⟩,I⟩
def Te (U:g<w.heap.size) (J: ∀i y,([7,1,9]:List Int)[i]? =ϊ y->w.cell? ⟨g,i,ϋ⟩=ϊ (ι y)) (Y:SlI .u8 w v [16,0]):
  Calls prog 216 #[δ (ϊ ⟨g,0,ϋ⟩) 3 cap,v] w λe w'=>(∃v',e= .returned v'/\SlI .u8 w' v' pkU)/\ql w w':=by
 have ac: ∀x:qt w,x.w'.cell? ⟨g,0,ϋ⟩=ϊ (ι 7):=λx=>by rw[x.h.cells _ _ U];exact J 0 _ rfl
 have ad: ∀x:qt w,x.w'.cell? ⟨g,1,ϋ⟩=ϊ (ι 1):=λx=>by rw[x.h.cells _ _ U];exact J 1 _ rfl
 have ae: ∀x:qt w,x.w'.cell? ⟨g,2,ϋ⟩=ϊ (ι 9):=λx=>by rw[x.h.cells _ _ U];exact J 2 _ rfl
 have ag:=κ Y;obtain⟨am,ak,rfl,_⟩:=id Y;clear J Y
 go_enter func216,ntmps216
 go_upto_region 1 with fail
 refine Qn w 14 15 [13,14] ?_
 refine qaD ?_
 (refine Ql ?_;intro K H)
 have M:Hid (((w.drewN 1).alloc (.cells #[μ ύ,υ 0,φ 0,ω 0,ω 0] 60)).heap[w.heap.size]? =ϊ (.cells #[μ ύ,υ 0,φ 0,ω 0,ω 0] 60 (0,0))):=κ (qj (w.drewN 1) _);have N:Hid (ql w ((w.drewN 1).alloc (.cells #[μ ύ,υ 0,φ 0,ω 0,ω 0] 60))):=κ (((ql.refl w).dr 1).al _);refine⟨qk N.o,H _ _ ?_⟩;clear H K ac ad ae;refine jR rfl rfl ?_;intro K H;refine xw 60 (.tmp 5) (.tmp 20) rfl w.heap.size 60 _ #[μ ύ,υ 96,φ 1,ω 9,ω 7] M.o rfl rfl ξ rfl X9 ?_;have I:=κ (N.o.row (ϔ _) #[μ ύ,υ 96,φ 1,ω 9,ω 7]);have d:=κ (jM M.o #[μ ύ,υ 96,φ 1,ω 9,ω 7]);refine⟨qk I.o,H _ _ ?_⟩;clear H K;refine qA ?_;obtain⟨aj,O⟩:=ν (((w.drewN 1).alloc (.cells #[μ ύ,υ 0,φ 0,ω 0,ω 0] 60)).setRow w.heap.size #[μ ύ,υ 96,φ 1,ω 9,ω 7]);rw[O] at I d
 (try rw[O])
 clear O M N;have an:=β0 d.o;have ao:=β1 d.o;have ap:=β2 d.o;have aq:=β3 d.o;have ar:=β4 d.o;have af:=κ (TK aj (δ am 2 ak) (ag.o.keep I.o))
 go_wp2_with ((go_at_call 37;(go_call af.o as e w5 ⟨⟨v5,rfl,ab⟩,aa⟩;have ai:=κ ab;have ah:=κ (I.o.trans aa);clear ab aa)))
 go_ret;exact⟨⟨_,rfl,ai.o⟩,ah.o⟩
def do4 {ad:World} (h:Pl ad pb (ϊ tp3) F w) (ak:g∈F) (an:g≠pb) (U: ∀i y,([7,1,9]:List Int)[i]? =ϊ y->w.cell? ⟨g,i,ϋ⟩=ϊ (ι y)):
  Calls prog 162 #[γ pb,.string ⟨#[107,101,121]⟩,δ (ϊ ⟨g,0,ϋ⟩) 3 cap] w λe w'=>e= .returned (.string ⟨#[]⟩)/\Pl ad pb (ϊ tp4) F w'/\PS pb F w w':=by
 obtain⟨R,O,H⟩:=h.room;have am:w.cell? ⟨pb,0,ϋ⟩=ϊ (π (ϊ ⟨R,0,ϋ⟩)):=qm H 0 rfl;have ah:=κ h;have I:=κ O;have af:=κ H;have Y:=h.lt g ak;have d:=κ (ql.alloc w (.cells #[υ 16,υ 0] 5));have aj:=κ (SlI.lit .u8 w [16,0] 5 #[υ 16,υ 0] 2 w.heap.size rfl rfl rfl η);have ag:=κ (Te (cap:=cap) (ϗ Y d.o.size) (λi y al=>by rw[d.o.cells _ _ Y];exact U i y al) aj.o);clear h O H U
 go_enter func162,ntmps162
 go_wp2_with (first | (go_at_call 216;(go_call ag.o as e w5 ⟨⟨v5,rfl,ab⟩,aa⟩;have ai:=κ ab;have M:=κ (d.o.trans aa);have ae:=κ (I.o.on M.o);clear ab aa)) | (go_at_call 33;(go_call LC ae.o pkU v5 ai.o (Byt.of_all ζ) ζ (by decide+kernel) te4 as e w6 ⟨rfl,N,ac⟩;have J:=κ (ah.o.step af.o N ((I.o.stay M.o).trans ac));clear N ac)))
 go_ret;exact⟨rfl,J.o.1,J.o.2⟩
section
open Go.Shelf Go.RowKit
def Ru:Go.Shelf.Ren:=⟨fun | 146=>98 | 221=>156 | 268=>209 | 138=>210 | 143=>211 | 195=>261 | 197=>262 | 218=>263 | 219=>264 | 260=>290 | 217=>291 | 225=>292 | 224=>293 | 267=>294 | 266=>319 | 314=>320 | n=>n,fun | 9=>9 | 31=>215 | 3=>3 | 4=>4 | 0=>0 | 105=>435 | 21=>21 | 5=>5 | 46=>335 | 119=>486 | 139=>489 | 138=>488 | 146=>490 | 51=>38 | n=>n,fun | 1=>0 | 3=>1 | 4=>2 | n=>n⟩
def lays146:Go.Proofs.LaysM.n146 prog Ru:=by
 constructor
 all_goals first | kernel_rfl | (intro w;rfl) | (constructor<;>first | kernel_rfl | (intro w;rfl)) | exact λw h=>Go.Proofs.cell_of_shapedOpen_int (zero:= #[ι 0]) (t:=3) h (Ϛ ξ) ξ rfl ξ ξ underlying3
def OC:Go.Shelf.Ren:=⟨fun | 156=>299 | 165=>325 | 166=>100 | 169=>103 | 240=>157 | 241=>335 | 276=>212 | 277=>336 | n=>n,fun | 31=>215 | 9=>9 | 3=>3 | 4=>4 | 0=>0 | 20=>20 | 72=>212 | 76=>220 | 70=>210 | 37=>35 | 75=>219 | 127=>321 | 164=>392 | 5=>5 | 80=>224 | n=>n,fun | n=>n⟩
def OF:Go.Proofs.Lays.n156 prog OC:=by
 constructor
 all_goals first | kernel_rfl | (intro w;rfl)
def Rt:Go.Shelf.Ren:=⟨fun | 171=>159 | 243=>213 | 246=>265 | 283=>295 | 284=>296 | 285=>297 | 286=>298 | 129=>230 | 317=>321 | 318=>322 | 319=>323 | 320=>324 | 337=>333 | 338=>334 | n=>n,fun | 3=>3 | 9=>9 | 2=>2 | 4=>4 | 171=>463 | 0=>0 | 53=>231 | 37=>35 | 5=>5 | 173=>465 | 212=>493 | 51=>38 | 20=>20 | 213=>494 | 46=>335 | 232=>503 | 233=>504 | n=>n,fun | 17=>3 | 18=>4 | 19=>5 | n=>n⟩
def Tl:Go.Proofs.LaysM.n171 prog Rt:=by
 constructor
 all_goals first | kernel_rfl | (intro w;rfl) | (constructor<;>first | kernel_rfl | (intro w;rfl))
def OQ:Nat:=0
def N9:String:=(Rows.topEndsRow.laid.map Prod.fst).getD 2 default
def bldX:Builder.Extra prog OC:={sizeBuilder:=by kernel_rfl,liesBuilder:=by kernel_rfl,t5:=underlying5,a5:=isAgg5,z5:=sizeOf5,v5:=zeroValue5,infoByte:=by kernel_rfl,cellsByte:=by kernel_rfl,sizeByte:=by kernel_rfl,neB5:=by decide}
def So (s d:ByteArray) {H:Int} (w:World) (M:s.size<4294967281) (J:w.cell? ⟨OQ,0,ϋ⟩=ϊ (ι H)) (I:1<=d.size):
  Calls prog 98 #[.string s,.string d] w λe w'=>e= .returned (δ (ϊ ⟨w.heap.size,0,ϋ⟩) (Lib.countB s d+1) (Lib.countB s d+1))/\w'=w.alloc (.cells ((Lib.splitB d 0 (Lib.countB s d) s).map Value.string).toArray 9):=
 Any.strings_Split {lays146 with} ξ s d H w M J I
def Se (w:World) (k:Nat) (os:Array Obj):ql w (Go.Sort.grow (w.drewN k) os):=⟨rfl,rfl,rfl,by simp[Go.Sort.grow,World.drewN],λb d=>by show (w.heap++os)[b]? =_;exact Array.getElem?_append_left d⟩
def Tu (n:Int) (h:0<=n/\n<=1000000000000) (w:World) (d:Lib.TabIs prog w N9 .u64 Lib.pow10Tab):
  Calls prog 159 #[ι n] w λe w'=>e= .returned (.string ⟨(Lib.itoa n).toArray⟩)/\ql w w':=by
 refine(Any.strconv_Itoa Tl n τ τ w d).mono ?_;rintro e w' ⟨rfl,k,os,rfl⟩;exact⟨rfl,Se w k os⟩
def Tt (d o c:Nat) (xs:List ByteArray) (H:ByteArray) (w:World) (M: ∀(j:Nat) x,xs[j]? =ϊ x->w.cell? ⟨d,o+j,ϋ⟩=ϊ (.string x)) (J:d<w.heap.size) (U:xs.length<=1000) (N:xs.length<=c) (I:Lib.join (xs.map (·.data.toList)) H.data.toList=r) (O:r.length<=1000):
  Calls prog 299 #[δ (ϊ ⟨d,o,ϋ⟩) xs.length c,.string H] w λe w'=>e= .returned (.string ⟨r.toArray⟩)/\ql w w':=by
 have h:=Any.strings_Join {OF with} bldX d o c xs H w M J τ N (by rw[I];omega);rw[I] at h;exact h
def Ts (B b:Nat) (l:List UInt8) (w:World) (h:Lib.IsBuilder 212 5 B b (Lib.byteCells l) w) (d:B<=w.heap.size):
  Calls prog 103 #[γ b] w λe w'=>e= .returned (.string ⟨l.toArray⟩)/\Below B w w':=
 Any.Builder_String_any {OF with} bldX B b l w h d
end
def NK {w':World} (h:Lib.TabIs prog w N9 .u64 Lib.pow10Tab) (m:ql w w'):Lib.TabIs prog w' N9 .u64 Lib.pow10Tab:=Joins.tab_stays (g:=3) ξ h m (ϔ _)
def itB (n:Int):ByteArray:=⟨(Lib.itoa n).toArray⟩
def je.tx {base:Nat} {D:Nat->Prop} {L:List ByteArray} (h:je 1 RTx D w base 9 v L) (ab:0<L.length): ∃g cap,v= δ (ϊ ⟨g,0,ϋ⟩) L.length cap/\L.length<=cap/\g<w.heap.size/\ ∀(j:Nat) x,L[j]? =ϊ x->w.cell? ⟨g,0+j,ϋ⟩=ϊ (.string x):=by
 have N:=h.sl ζ;obtain⟨⟨xs,U,r⟩,_⟩:=h;rcases id U.2 with ⟨rfl,Y⟩ | ⟨g,cap,cur,rfl,aa,J,I,ac,_⟩
 ·omega
 ·refine⟨g,cap,rfl,I,lt_of_block J,λj x O=> ?_⟩;obtain⟨M,e⟩:=ϟ.1 O;obtain⟨b,ad,d,H⟩:=N.strs (ql.refl _) j M;injection d with d
  injection d with e3 e4 _
  subst e3 e4;rw[H,e]
def RE (af:ByteArray) (d:List Int) (g cap:Nat) (w:World) (aj: ∀i y,d[i]? =ϊ y->w.cell? ⟨g,i,ϋ⟩=ϊ (ι y)) (O:g<w.heap.size) (aF:0<d.length) (aP:d.length<=20) (M: ∀n∈d,0<=n/\n<=1000000000000) (an:Lib.TabIs prog w N9 .u64 Lib.pow10Tab)
  (am:Lib.join (d.map Lib.itoa) af.data.toList=r) (aE:r.length<=1000):
  Calls prog 268 #[.string af,δ (ϊ ⟨g,0,ϋ⟩) d.length cap] w λe w'=>e= .returned (.string ⟨r.toArray⟩)/\ql w w':=by
 obtain⟨aL,hi,aG,aH,aI⟩:=info_parts (P:=prog) (e:=9) (z:= .string ByteArray.empty) (size:=1) (bytes:=16) ξ;have aw:=κ (λw' (m:ql w w')=>NK an m);have ao:Hid (∀wr,ql w wr-> ∀i (hi:i<d.length),wr.cell? ⟨g,i,ϋ⟩=ϊ (ι d[i])):=κ (λwr m i hi=>by rw[m.cells _ _ O];exact aj i _ (ϖ hi));have au:Hid (∀i (hi:i<d.length),0<=d[i]/\d[i]<=1000000000000):=κ (λi hi=>M _ (ϡ hi));have ar:=κ am;clear aj M an am
 go_enter func268,ntmps268
 go_wp2
 go_loopw [5,10] (λu ac wr=> ∃i:Nat,i<=d.length/\ac= ι i/\(∃ae ad Y,u= δ ae ad Y)/\je 1 RTx (λ_=>False) wr w.heap.size 9 u ((d.take i).map itB)/\ql w wr) (λ_ ac _=>d.length-(intOf ac).toNat)
 case atStart=>exact⟨0,τ,rfl,⟨_,_,_,rfl⟩,je.nil _ _ _ _ _ _,ql.refl _⟩
 case round=>
  obtain⟨i,aQ,rfl,⟨ae,ad,Y,rfl⟩,M,ak⟩:=hrel;have U:=κ M;have N:=κ ak;clear M ak;by_cases hlt:i<d.length
  ·have aD:(i:Int)<(d.length:Int):=by omega
   have aN:=ao.o wr N.o i hlt;have aq:=κ (Tu d[i] (au.o i hlt) wr (aw.o wr N.o));have ax:Hid ((d.take (i+1)).map itB=(d.take i).map itB++[itB d[i]]):=κ (by rw[Φ hlt,ϻ];rfl);have aR:((d.take i).map itB).length<=20:=by rw[B9,Ϡ];omega
   generalize d[i]=y at *;generalize (d.take i).map itB=fl at *;have ap:Hid (∀b,(δ ae ad Y).ownBlock=ϊ b->w.heap.size<=b):=κ (λb h=>U.o.ge h)
   go_wp2_with (first | (go_at_call 159;(go_call aq.o as e w5 ⟨rfl,I⟩;have J:=κ (N.o.trans I);have ay:=κ ((U.o.on I).on (ql.alloc w5 (.cells #[.string (itB y)] 9)));clear I)) | (at_builtin;(refine jN (R:=RTx) (D:=λ_=>False) _ rfl (.tmp 14) (.tmp 17) 215 rfl w.heap.size 9 aL (.string ByteArray.empty) 1 16 underlying215 hi aG aH aI rfl ζ _ fl rfl ay.o w5.heap.size [.string (itB y)] (itB y) rfl rfl (zS (by simp[itB])) X9 (λw' _=>rfl) (λb h=>h.elim) ζ τ (J.o.al _).size ?_;intro v' w8 H O aC;have aM:Hid (ql w w8):=κ (Below.grown (J.o.al _) O (J.o.al _).size ap.o);obtain⟨aT,aS,aO,rfl,aJ,aK⟩:=H.shape;have az:=κ H;clear H O aC aJ aK)))
   go_roundw
   case rel=>exact⟨i+1,τ,by go_num,⟨_,_,_,rfl⟩,by rw[ax.o];exact az.o,aM.o⟩
   case measure=>simp[intOf];omega
  ·obtain rfl:i=d.length:=by omega
   have aD: ¬(d.length:Int)<(d.length:Int):=by omega
   have H:=U.o;rw[ϱ] at H;obtain⟨aB,aA,aa,ag,ah,ai⟩:=H.tx (by rw[B9];exact aF);have ab:=Tt aB 0 aA (d.map itB) af wr ai ah (by rw[B9];omega) ag (r:=r) (by rw[<-ar.o,P2];rfl) aE;rw[B9] at ab aa;have av:=κ ab;clear ab;rw[aa];clear H aa ag ah ai
   go_wp2_with ((go_at_call 299;(go_call av.o as e w5 ⟨rfl,I⟩;have J:=κ (N.o.trans I);clear I)))
   go_ret;exact⟨rfl,J.o⟩
def SH (x:ByteArray) (g cap:Nat) (w:World) (d:w.cell? ⟨g,0,ϋ⟩=ϊ (.string x)) (U:g<w.heap.size) (O:1<=cap) (Y:x.data.toList.length<=1000):
  Calls prog 300 #[δ (ϊ ⟨g,0,ϋ⟩) 1 cap] w λe w'=>e= .returned (.string x)/\ql w w':=by
 have H:(⟨x.data.toList.toArray⟩:ByteArray)=x:=by simp
 have M:Hid (Calls prog 299 #[δ (ϊ ⟨g,0,ϋ⟩) 1 cap,.string ⟨#[32]⟩] w λe w'=>e= .returned (.string x)/\ql w w'):=κ (by
  have h:=Tt g 0 cap [x] ⟨#[32]⟩ w (λj y I=>by
   have:j=0:=by
    have:=(ϟ.1 I).1;simp at this;exact this
   subst this;have:x=y:=by simpa using I
   subst this
   exact d) U η O (r:=x.data.toList) (Lib.join_one _ _) Y
  rw[H] at h
  exact h)
 clear d H
 go_enter func300,ntmps300
 go_wp2_with ((go_at_call 299;(go_call M.o as e w5 ⟨rfl,J⟩;have N:=κ J;clear J)))
 go_ret;exact⟨rfl,N.o⟩
def Rh (j:Nat) (h:j<5):tpP (j+1)=((tpP j).pick (wkT.getD j (0,0)) ό).1:=by
 match j,h with
 | 0,_=>rfl
 | 1,_=>rfl
 | 2,_=>rfl
 | 3,_=>rfl
 | 4,_=>rfl
def Sq {j:Nat} (h:j<5):(tpP j).pick ((wkT.getD j (0,0)).1,(wkT.getD j (0,0)).2) ό=(tpP (j+1),ό):=by
 refine X1 (Rh j h).symm ?_;have:=tq6 j h;unfold RmS.pick;rw[ϐ this]
def tkP (j:Nat) (d:j<=5):qV (4+j) (tpP j):=by
 induction j with
 | zero=>exact tk4
 | succ j ih=>
  rw[Rh j τ];exact(ih τ).pick _ _
def Tw {I:World} (h:Pl I pb (ϊ tp4) F w):
  Calls prog 267 #[γ pb,ι 1] w λe w'=>e= .returned (ι 5)/\Pl I pb (ϊ tp5) F w'/\PS pb F w w':=by
 have M:=κ h;clear h
 go_enter func267,ntmps267
 go_wp2
 go_loopw [5,9] (λu J wr=>(J= ι 0/\u= ι 0/\w=wr)∨(J= ι 1/\u= ι 5/\Pl I pb (ϊ tp5) F wr/\PS pb F w wr)) (λ_ J _=>1-(intOf J).toNat)
 case atStart=>exact ϑ ⟨rfl,rfl,rfl⟩
 case round=>
  rcases hrel with ⟨rfl,rfl,rfl⟩ | ⟨rfl,rfl,N,t5⟩
  ·obtain⟨R,ay,av⟩:=M.o.room;have Y:w.cell? ⟨pb,0,ϋ⟩=ϊ (π (ϊ ⟨R,0,ϋ⟩)):=qm av 0 rfl;have ag:=κ (RZ ay);rw[tq5] at ag;clear ay av
   go_wp2_with ((go_at_call 26;(go_call ag.o as e w8 ⟨aV,rfl,al,aD⟩;obtain⟨aU,cap,rfl,aC⟩:=LP al;have ah:=κ aC;have ai:=κ al;have ar:=κ aD;clear al aC aD)))
   obtain⟨d,rfl,_,_⟩:=ah.o.2 _ (ql.refl _) 0 ζ;have aA:w.heap.size<=d:=ai.o.ge rfl;have aT:d<w8.heap.size:=ai.o.lt rfl
   have ap:Hid (∀j (ac:j<5),w8.cell? ⟨d,j* 2,ϋ⟩=ϊ (ι (wkT.getD j (0,0)).1)/\w8.cell? ⟨d,j* 2+1,ϋ⟩=ϊ (ι (wkT.getD j (0,0)).2)):=κ (λj ac=>by
    obtain⟨b,e,aP,aQ⟩:=ah.o.2 _ (ql.refl _) j ac;injection e with e
    injection e with e _ _
    subst e;have e:wkT.getD j (0,0)=wkT[j]:=by rw[ϒ,ϖ ac];rfl
    rw[e]
    exact⟨aP,aQ⟩)
   have an:Hid (Pl I pb (ϊ tp4) ([d]++F) w8):=κ (M.o.adds ar.o (λb H=>by simp at H;subst H;exact⟨aA,aT⟩));have aR:Hid (d≠pb):=κ (λe=>by have:=M.o.lt pb M.o.1;omega);have aN:=κ (M.o.stay ar.o);clear aA ah ai ag Y
   go_loopw [5,17] (λu J aF=> ∃j:Nat,j<=5/\J= ι j/\u= ι j/\Pl I pb (ϊ (tpP j)) ([d]++F) aF/\PS pb ([d]++F) w8 aF) (λ_ J _=>5-(intOf J).toNat)
   case atStart=>exact⟨0,τ,rfl,rfl,an.o,PS.refl⟩
   case round=>
    obtain⟨j,ac,rfl,rfl,aB,aE⟩:=hrel;have aa:=κ aB;have aj:=κ aE;clear aB aE an;by_cases hlt:j<5
    ·have aS:(j:Int)<5:=by omega
     have am:=aj.o.2 d η aR.o;obtain⟨Y,c1⟩:=ap.o j hlt;rw[<-World.cell?_of_block am] at Y c1;have aq:=κ (Sq hlt);have aK:=κ (tkP j τ);have aJ:Hid (4+j<=1000):=κ τ;generalize wkT.getD j (0,0)=y at *;obtain⟨ad,ae⟩:=y;simp only at Y c1 aq;obtain⟨W1,ak⟩:=ν (wr.alloc (.cells #[ι ad,ι ae] 37));have au:Hid (ql wr W1):=κ (by rw[<-ak];exact ql.alloc _ _);have O:Hid (W1.heap[wr.heap.size]? =ϊ (.cells #[ι ad,ι ae] 37 (0,0))):=κ (by rw[<-ak];exact qj wr _);have U:Hid (Pl I pb (ϊ (tpP j)) ([wr.heap.size]++([d]++F)) W1):=κ (aa.o.adds au.o (λb H=>by simp at H;subst H;exact⟨ϔ _,qn O.o⟩));obtain⟨aM,az,aw⟩:=U.o.room;have af:=κ az;have ao:=κ aw;have aL: ∀x:qz (λb=>I.heap.size<=b/\b∉[wr.heap.size]++([d]++F)) W1,x.w'.cell? ⟨pb,0,ϋ⟩=ϊ (π (ϊ ⟨aM,0,ϋ⟩)):=λx=>x.cell (U.o.lt pb U.o.1) (λc=>c.2 U.o.1) (qm ao.o 0 rfl)
     have aH: ∀x:qz (λb=>I.heap.size<=b/\b∉[wr.heap.size]++([d]++F)) W1,x.w'.cell? ⟨wr.heap.size,0,ϋ⟩=ϊ (ι ad):=λx=>x.cell (qn O.o) (λc=>c.2 η) (qm O.o 0 rfl)
     have aI: ∀x:qz (λb=>I.heap.size<=b/\b∉[wr.heap.size]++([d]++F)) W1,x.w'.cell? ⟨wr.heap.size,1,ϋ⟩=ϊ (ι ae):=λx=>x.cell (qn O.o) (λc=>c.2 η) (qm O.o 1 rfl)
     clear az aw am ap
     go_upto_region 7 with fail
     clear ak Y c1;refine QN (λb=>I.heap.size<=b/\b∉[wr.heap.size]++([d]++F)) W1 6 6 [5] ?_
     refine Qs5 ?_
     clear aL aH aI
     (refine Ql ?_;intro K ax)
     go_call F7 (af.o.on (ql.drewN W1 1)) aK.o (qaw aJ.o) ad ae ό aq.o as e w5 ⟨rfl,N,t5⟩;have aG:Hid (jt (λb=>I.heap.size<=b/\b∉[wr.heap.size]++([d]++F)) W1 w5):=κ (((jt.refl _ W1).drewN 1).trans ((af.o.on (ql.drewN W1 1)).away N t5));refine⟨_,rfl,qi aG.o,ax _ _ ?_⟩;clear ax K;refine qA ?_;have ab:=κ (U.o.step ao.o N (qw.trans (af.o.stay (ql.drewN W1 1)) t5));clear N t5;go_wp2;go_roundw
     case rel=>exact⟨j+1,τ,by go_num,by go_num,ab.o.1.sub (λb H=>ϓ _ H) aa.o.1,aj.o.trans ((aa.o.stay au.o).trans (ab.o.2.sub (λb H=>ϓ _ H)))⟩
     case measure=>simp[intOf];omega
    ·obtain rfl:j=5:=by omega
     have aS: ¬((5:Nat):Int)<5:=by omega
     go_wp2;go_roundw
     case rel=>exact ϕ ⟨by go_num,by go_num,aa.o.sub (λb H=>ϓ _ H) M.o.1,aN.o.trans (aj.o.sub (λb H=>ϓ _ H))⟩
     case measure=>simp[intOf]
  ·have ab:=κ N;have aO:=κ t5;clear N t5;go_wp2;go_ret;exact⟨rfl,ab.o,aO.o⟩
def wrB:List Int:=[128,96,0,5,0,0,0,100,0,0,0,50,16,0]
def TY:Lib.itoa 5=[53]:=by simp[Lib.itoa,Lib.decDigits]
def qat:Lib.join ([0,5,100].map Lib.itoa) [58]=[48,58,53,58,49,48,48]:=by simp[Lib.itoa,Lib.decDigits,Lib.join,List.intercalate]
def rdT:jl wrB=(⟨ύ,96,5,100,50,[],ύ,0,[],[16,0]⟩,0):=by kernel_rfl
def TP (U:SlI .u8 w v wrB):Calls prog 16 #[v] w λe w'=> ∃J M N d H I,e= .returned (.tuple #[θ #[μ ύ,υ 96,φ 5,ω 100,ω 50,δ J 0 d,ύ,φ 0,δ M 0 H,δ N 2 I],ι 0])/\ql w w':=by
 refine(Ky v wrB w U (Byt.of_all ζ) ζ).mono ?_;rintro e w' ⟨Y,vb,aa,O,ps,m⟩;rw[rdT] at O ps;obtain⟨⟨J,d,rfl,-⟩,⟨M,H,rfl,-⟩,⟨N,I,rfl,-⟩⟩:=ps;exact⟨J,M,N,d,H,I,O,m⟩
def qak {aa:World} {R:Nat} (h:RmR aa w R tp5 F):Calls prog 14 #[γ R,ι 0] w λe w'=> ∃g cap b I d,e= .returned (δ (ϊ ⟨g,0,ϋ⟩) 1 cap)/\w'.cell? ⟨g,0,ϋ⟩=ϊ (ι 0)/\w'.cell? ⟨g,1,ϋ⟩=ϊ (δ (ϊ ⟨b,I,ϋ⟩) 14 d)/\SlI .u8 w' (δ (ϊ ⟨b,I,ϋ⟩) 14 d) wrB/\ql w w':=by
 refine(MO h 0 (by rw[tq7];decide)).mono ?_;rintro e w' ⟨⟨v,rfl,H⟩,m⟩;rw[tq7] at H;have Y:=H.sl ζ;obtain⟨ai,cap,rfl,_,O,_⟩:=Y;obtain⟨g,I,cs,rfl,af,ae,M,v,rfl,J,_,_,ag,_⟩:=O 0 ζ;obtain⟨⟨xs,⟨_,U⟩,_⟩,_⟩:=id H;rcases U with ⟨e,_⟩ | ⟨g',ab,cur,e,ac,_⟩
 ·cases e
 ·injection e with e1 _ _
  injection e1 with e1
  injection e1 with e1 e2 _
  subst e1 e2;obtain⟨aj,d,rfl,_⟩:=id J;obtain⟨b,N,rfl,ad,ah⟩:=J.addr ζ;exact⟨g,cap,b,N,d,rfl,M 0 ζ,M 1 ζ,J,m⟩
def SY {aI:World} (h:Pl aI pb (ϊ tp5) F w) (aB:Lib.TabIs prog aI N9 .u64 Lib.pow10Tab):
  Calls prog 269 #[γ pb,ι 0] w λe w'=>e= .returned (.string ⟨#[48,58,53,58,49,48,48]⟩)/\ql w w':=by
 obtain⟨ba,hi,aV,aW,aX⟩:=info_parts (P:=prog) (e:=9) (z:= .string ByteArray.empty) (size:=1) (bytes:=16) ξ;obtain⟨R,ax,aw⟩:=h.room;have ao:w.cell? ⟨pb,0,ϋ⟩=ϊ (π (ϊ ⟨R,0,ϋ⟩)):=qm aw 0 rfl;have aN:=κ (NK aB h.2.2.1);have aj:=κ (qak ax);clear h ax aw aB
 go_enter func269,ntmps269
 go_wp2_with ((go_at_call 14;(go_call aj.o as e w8 ⟨g,cap,b,ah,ag,rfl,ap,aq,aH,aE⟩;have an:=κ aH;have ak:=κ aE;clear aH aE)))
 go_loopw [5,17] (λu I wr=>(I= ι 0/\u= δ ϋ 0 0/\w8=wr)∨(I= ι 1/\(∃aG ae,u= δ aG 1 ae)/\je 1 RTx (λ_=>False) wr w8.heap.size 9 u [⟨#[48,58,53,58,49,48,48]⟩]/\ql w8 wr)) (λ_ I _=>1-(intOf I).toNat)
 case atStart=>exact ϑ ⟨rfl,rfl,rfl⟩
 case round=>
  rcases hrel with ⟨rfl,rfl,rfl⟩ | ⟨rfl,⟨aG,ae,rfl⟩,aA,az⟩
  ·have ai:=κ (TP (an.o.keep (ql.alloc w8 (.cells #[ι 0,δ (ϊ ⟨b,ah,ϋ⟩) 14 ag] 56))))
   go_upto_region 6 with ((go_at_call 16;(go_call ai.o as e w9 ⟨O,U,Y,J,M,N,rfl,aF⟩;have ad:=κ aF;clear aF)))
   have H:=qq ad.o (qj w8 (.cells #[ι 0,δ (ϊ ⟨b,ah,ϋ⟩) 14 ag] 56));have ab:=qj w9 (.cells #[μ ύ,υ 96,φ 5,ω 100,ω 50,δ O 0 J,ύ,φ 0,δ U 0 M,δ Y 2 N] 63);have H:=qs H (.cells #[μ ύ,υ 96,φ 5,ω 100,ω 50,δ O 0 J,ύ,φ 0,δ U 0 M,δ Y 2 N] 63);have aQ:=κ (((ql.alloc w8 (.cells #[ι 0,δ (ϊ ⟨b,ah,ϋ⟩) 14 ag] 56)).trans ad.o).al (.cells #[μ ύ,υ 96,φ 5,ω 100,ω 50,δ O 0 J,ύ,φ 0,δ U 0 M,δ Y 2 N] 63));generalize w9.alloc (.cells #[μ ύ,υ 96,φ 5,ω 100,ω 50,δ O 0 J,ύ,φ 0,δ U 0 M,δ Y 2 N] 63)=W9 at *;have bf:=β0 H;have bg:=β2 ab;have bh:=β3 ab;have aa:=qj W9 (.cells #[ι 0,ι 5,ι 100] 3);have am:=κ (aQ.o.al (.cells #[ι 0,ι 5,ι 100] 3))
   have aM:Hid (Calls prog 268 #[.string ⟨#[58]⟩,δ (ϊ ⟨W9.heap.size,0,ϋ⟩) 3 3] (W9.alloc (.cells #[ι 0,ι 5,ι 100] 3)) λe w'=>e= .returned (.string ⟨#[48,58,53,58,49,48,48]⟩)/\ql (W9.alloc (.cells #[ι 0,ι 5,ι 100] 3)) w'):=κ (RE ⟨#[58]⟩ [0,5,100] W9.heap.size 3 _ (λi y d=>qm aa i (by
    match i,d with
    | 0,d=>simpa using d
    | 1,d=>simpa using d
    | 2,d=>simpa using d)) (qn aa) ζ ζ ζ (NK aN.o (ak.o.trans am.o)) qat ζ)
   clear H ab aa ap aq ai ad an aj ao
   go_wp2_with (first | (go_at_call 268;(go_call aM.o as e w10 ⟨rfl,aC⟩;have ac:=κ (am.o.trans aC);clear aC)) | (at_builtin;(refine jN (R:=RTx) (D:=λ_=>False) _ rfl (.tmp 27) (.tmp 40) 215 rfl w8.heap.size 9 ba (.string ByteArray.empty) 1 16 underlying215 hi aV aW aX rfl ζ _ [] rfl (je.nil _ _ _ _ _ _) w10.heap.size [.string ⟨#[48,58,53,58,49,48,48]⟩] ⟨#[48,58,53,58,49,48,48]⟩ rfl rfl (zS η) X9 (λw' _=>rfl) (λb h=>h.elim) ζ ζ (ac.o.al _).size ?_;intro v' bc af ay aU;have aO:Hid (ql w8 bc):=κ (Below.grown (ac.o.al _) ay (ac.o.al _).size (λb h=>by cases h));obtain⟨bi,bb,be,rfl,aY,aZ⟩:=af.shape;obtain rfl:bb=1:=aY;have aR:=κ af;clear af ay aU aZ)))
   go_roundw
   case rel=>exact ϕ ⟨by go_num,⟨_,_,rfl⟩,aR.o,aO.o⟩
   case measure=>simp[intOf]
  ·clear ao ap aq;have aL:=κ aA;have aK:=κ az;clear aA az;obtain⟨aT,bd,aS,ar,au,av⟩:=aL.o.tx ζ;injection aS with e3 e4 e5
   subst e3 e5;have aJ:=κ (SH ⟨#[48,58,53,58,49,48,48]⟩ aT ae wr (av 0 _ rfl) au ar ζ);clear ar au av e4
   go_wp2_with ((go_at_call 300;(go_call aJ.o as e w5 ⟨rfl,aD⟩;have aP:=κ aD;clear aD)))
   go_ret;exact⟨rfl,ak.o.trans (aK.o.trans aP.o)⟩
def Oq (w:World) (base:Nat) (t u I e:TypeId) (i:TypeInfo) (N:P.underlying t=ϊ (.slice e)) (O:P.underlying u=ϊ .string) (hi:P.info? e=ϊ i) (ab:i.zero=ϊ (υ 0))
  (M:i.size=1) (Y:i.bytes=1) (v:Value) (n:Nat) (xs:List Value) (H:w.ownsRow base e 1 v n xs) (s:ByteArray)
  (U:n+s.size<=maxLen) (ac:n+s.size<=140737488355328) (ag:base<=w.heap.size):
  ∃v' w',(Builtin.append_ #[t,u] I #[v,.string s]).run P w= .ok v' w'/\w'.ownsRow base e 1 v' (n+s.size) (xs++Lib.strCells s)/\w.grownBy w' v.ownBlock/\(∀g,v'.ownBlock=ϊ g->v.ownBlock=ϊ g∨w.heap.size<=g):=by
 obtain⟨v',w',J,ae,af,_⟩:=Lib.run_append_own_string (P:=P) w base t u I e i N O hi ab M Y v n xs H s U ac ag;refine⟨v',w',J,ae,af,λg aa=> ?_⟩;rcases id H.2 with ⟨rfl,ad⟩ | ⟨b,cap,cur,rfl,ak,ai,an,al,ah,ao⟩
 ·subst ad;obtain rfl:xs=[]:=Ϥ (by simpa using H.1);obtain⟨ap,w2,d,aj,_⟩:=Lib.run_append_own_string (P:=P) w w.heap.size t u I e i N O hi ab M Y _ 0 [] (World.ownsRow_nil w _ e 1) s U ac (ϔ _);rw[J] at d;injection d with e1 e2
  subst e1;exact ϕ (jS aj aa)
 ·by_cases hroom:n+s.size<=cap
  ·have am:cur.size=cap:=by simpa using ah
   have d:=Lib.run_append_room_string (P:=P) w t u I e i N O hi M b n cap cur ai s hroom τ;rw[J] at d;injection d with e1 e2
   subst e1;exact ϑ aa
  ·have d:=Lib.run_append_grow_string (P:=P) w t u I e i (υ 0) N O hi ab ⟨b,0,ϋ⟩ n cap xs (by rw[M];simpa using H.1) (H.cells (g:=b) rfl) s τ (by simp only[maxLen] at U;omega) (by rw[Y];exact growslice_fits τ τ);rw[J] at d;injection d with e1 e2
   subst e1;refine ϕ (Nat.le_of_eq ?_);injection aa
def Oo {ops:Array Oper} {rest:List Oper} {o:Oper} {a:Act} {Q:Exit->Act->World->Prop} (aa:o.guard=ϋ) (d x:Operand) (t u:TypeId)
  (ab:o.op= .call {callee:= .builtin .append,args:= #[d,x],argTypes:= #[t,u]})
  (base:Nat) (e:TypeId) (i:TypeInfo) (ag:P.underlying t=ϊ (.slice e)) (ah:P.underlying u=ϊ .string) (hi:P.info? e=ϊ i) (aj:i.zero=ϊ (υ 0)) (af:i.size=1) (U:i.bytes=1)
  (v:Value) (n:Nat) (xs:List Value) (ae:a.eval d=v) (ac:w.ownsRow base e 1 v n xs) (s:ByteArray) (ai:a.eval x= .string s)
  (M:n+s.size<=maxLen) (Y:n+s.size<=140737488355328) (O:base<=w.heap.size)
  (h: ∀v' w',w'.ownsRow base e 1 v' (n+s.size) (xs++Lib.strCells s)->w.grownBy w' v.ownBlock->(∀g,v'.ownBlock=ϊ g->v.ownBlock=ϊ g∨w.heap.size<=g)->wpList P ops Q rest (a.put o.dst v') w'):wpList P ops Q (o::rest) a w:=by
 refine wpList_plain aa λK N=> ?_
 obtain⟨v',w',ad,H,I,J⟩:=Oq (P:=P) w base t u o.type e i ag ah hi aj af U v n xs ac s M Y O;unfold Oper.wp execOp;simp only[ab,resolve,invoke,builtin,Sem.run_bind,Sem.run_pure,Result.andThen_ok,K2,Ϟ,D4,ae,ai,ad];exact N _ _ (h v' w' H I J)
def Bd (B:Nat) (F:List Nat) (w:World) (b:Nat) (l:List UInt8):Prop:=b∈F/\B<=b/\ ∃p v,(p= .pointer ϋ∨p= .pointer (ϊ ⟨b,0,ϋ⟩))/\w.heap[b]? =ϊ (.cells #[p,v] 212 (0,0))/\w.ownsRow B 5 1 v l.length (Lib.byteCells l)/\v.ownBlock≠ϊ b/\ ∀g,v.ownBlock=ϊ g->g∈F
def Bd.is (h:Bd B F w b l):Lib.IsBuilder 212 5 B b (Lib.byteCells l) w:=by
 obtain⟨_,d,p,v,M,H,J,I,_⟩:=h;rcases M with rfl | rfl
 ·exact ϑ ⟨d,v,H,by rw[Lib.byteCells_length];exact J,I⟩
 ·exact ϕ ⟨d,v,H,by rw[Lib.byteCells_length];exact J,I⟩
def Bd.more {w':World} (h:Bd B F w b l) (t:qw F w w'):Bd B F w' b l:=by
 obtain⟨hF,M,p,v,U,d,O,N,H⟩:=h;refine⟨hF,M,p,v,U,by rw[t.2 b hF];exact d, ?_,N,H⟩;obtain⟨I,J⟩:=O;refine⟨I, ?_⟩;rcases J with h | ⟨g,cap,cur,e1,d,hgg,rest⟩
 ·exact ϑ h
 ·exact ϕ ⟨g,cap,cur,e1,d,by rw[t.2 g (H g (by rw[e1];rfl))];exact hgg,rest⟩
def Ro (h:Bd B F w b l):
  Calls prog 157 #[γ b] w λe w'=>e= .returned (.tuple #[])/\(∃v,w'.heap[b]? =ϊ (.cells #[γ b,v] 212 (0,0))/\w'.ownsRow B 5 1 v l.length (Lib.byteCells l)/\v.ownBlock≠ϊ b/\ ∀g,v.ownBlock=ϊ g->g∈F)/\jt (λx=>x∈F) w w':=by
 have d:=h.is;obtain⟨hF,O,p,v,U,H,M,I,J⟩:=h;rcases d with d | d
 ·refine(Any.Builder_copyCheck_fresh {OF with} bldX.toX72 b w d.cell0 d.shape d.frozen0).mono ?_;rintro e w' ⟨rfl,rfl⟩;refine⟨rfl,⟨v,by simp[World.setCell,G0,H], ?_,I,J⟩,(jt.refl _ _).set hF _⟩;exact M.kept (row:=ϊ b) ⟨rfl,rfl,rfl,by simp[World.setCell],λk _ N=>Below.heap_setCell _ _ _ _ (λe=>N (by simp[e]))⟩ (ϕ I)
 ·refine(Any.Builder_copyCheck_used {OF with} bldX.toX72 b w d.cell0).mono ?_;rintro e w' ⟨rfl,rfl⟩;have e0:=d.cell0;rw[Lib.cell_of_heap H] at e0;injection e0 with e0
  subst e0;exact⟨rfl,⟨v,H,M,I,J⟩,jt.refl _ _⟩
def Sn {v':Value} (hF:b∈F) (J:B<=b) (d:w.heap[b]? =ϊ (.cells #[γ b,v] 212 (0,0))) (I:w.ownsRow B 5 1 v' l.length (Lib.byteCells l)) (M: ∀g,v'.ownBlock=ϊ g->g∈F):
  Bd B F (w.setCell ⟨b,1,ϋ⟩ v') b l:=by
 have H:=Lib.ownBlock_ne I d bldX.neB5;exact⟨hF,J,_,v',ϕ rfl,by simp[World.setCell,G0,d],I.kept (row:=ϊ b) ⟨rfl,rfl,rfl,by simp[World.setCell],λk _ N=>Below.heap_setCell _ _ _ _ (λe=>N (by simp[e]))⟩ (ϕ H),H,M⟩
def qay (h:Bd B F w b l) (s:ByteArray) (ax:l.length+s.size<=100000):
  Calls prog 100 #[γ b,.string s] w λe w'=>e= .returned (.tuple #[ι s.size,.nilIface])/\jt (λx=>x∈F) w w'/\ ∃g,(g∈F∨w.heap.size<=g/\g<w'.heap.size)/\Bd B (g::F) w' b (l++s.data.toList):=by
 obtain⟨aq,hi,an,ao,ap⟩:=info_parts (P:=prog) (e:=5) (z:= υ 0) (size:=1) (bytes:=1) ξ;have hF:=h.1;have af:=h.2.1;have ay:b<w.heap.size:=by obtain⟨_,_,_,_,_,ah,_⟩:=h;exact lt_of_block ah
 have ae:=κ (Ro h);clear h
 go_enter func100,ntmps100
 go_wp2_with (first | (go_at_call 157;(go_call ae.o as e w1 ⟨rfl,⟨v,I,aa,am,U⟩,N⟩;obtain⟨J,M,rfl⟩:=xl aa;have az:w.heap.size<=w1.heap.size:=N.size;have ar:w1.cell? ⟨b,0,ϋ⟩=ϊ (π (ϊ ⟨b,0,ϋ⟩)):=(by rw[Lib.cell_of_heap I];rfl);have c1:w1.cell? ⟨b,1,ϋ⟩=ϊ (δ J l.length M):=(by rw[Lib.cell_of_heap I];rfl))) | (at_builtin;refine Oo rfl _ _ 35 9 rfl B 5 aq underlying35 underlying9 hi an ao ap _ _ _ rfl aa s rfl ?c3 ?c4 ?c5 ?_))
 case c3=>unfold maxLen;omega
 case c4=>omega
 case c5=>omega
 intro v' w2 ab Y ag;have al:b<w1.heap.size:=by omega
 have H:w2.heap[b]? =ϊ (.cells #[γ b,δ J l.length M] 212 (0,0)):=by
  rw[Y.block b al (λe=>am e.symm)];exact I
 have au:w2.cell? ⟨b,0,ϋ⟩=ϊ (π (ϊ ⟨b,0,ϋ⟩)):=by rw[Lib.cell_of_heap H];rfl
 have av:w2.cell? ⟨b,1,ϋ⟩=ϊ (δ J l.length M):=by rw[Lib.cell_of_heap H];rfl
 have aw:w2.frozen? ⟨b,1,ϋ⟩=ύ:=Lib.frozen_of_heap H 1;have ad:jt (λx=>x∈F) w w2:=N.trans ((jt.of_grown Y).mono λk d=>U k d);obtain⟨g,ak,ai,O,ac,cap,rfl⟩: ∃g,(g∈F∨w.heap.size<=g/\g<w2.heap.size)/\(∀k,v'.ownBlock=ϊ k->k∈g::F)/\ ∃O ac cap,v'= δ O ac cap:=by
  rcases id ab.2 with ⟨rfl,_⟩ | ⟨g,cap,cur,rfl,_,aj,_⟩
  ·exact⟨b,ϑ hF,(λk d=>by cases d),_,_,_,rfl⟩
  ·refine⟨g, ?_,(λk d=>by injection d with d;subst d;exact ϛ),_,_,_,rfl⟩;rcases ag g rfl with e | e
   ·exact ϑ (U g e)
   ·exact ϕ ⟨τ,lt_of_block aj⟩
 go_wp2
 go_ret2
 refine⟨rfl,ad.set hF _,g, ?_,Sn (ϫ _ hF) af H ?_ ai⟩
 ·simpa [World.setCell] using ak
 ·rw[Ϗ,Lib.byteCells_append,<-Lib.strCells_eq];exact ab
def qah (h:Bd B F w b l) (aB:l.length<=100000):
  Calls prog 102 #[γ b,υ 10] w λe w'=>e= .returned .nilIface/\jt (λx=>x∈F) w w'/\ ∃g,(g∈F∨w.heap.size<=g/\g<w'.heap.size)/\Bd B (g::F) w' b (l++[10]):=by
 obtain⟨av,hi,aq,ar,au⟩:=info_parts (P:=prog) (e:=5) (z:= υ 0) (size:=1) (bytes:=1) ξ;have hF:=h.1;have aj:=h.2.1;have aC:b<w.heap.size:=by obtain⟨_,_,_,_,_,al,_⟩:=h;exact lt_of_block al
 have af:=κ (Ro h);have ai: ∀l:List UInt8,Lib.byteCells l=(l.map λc=>(c.toNat:Int)).map (Value.int .u8):=λl=>by unfold Lib.byteCells;rw[P2];rfl
 clear h
 go_enter func102,ntmps102
 go_wp2_with (first | (go_at_call 157;(go_call af.o as e w1 ⟨rfl,⟨v,N,O,ap,ab⟩,aa⟩;obtain⟨I,J,rfl⟩:=xl O;have aE:w.heap.size<=w1.heap.size:=aa.size;have aw:w1.cell? ⟨b,0,ϋ⟩=ϊ (π (ϊ ⟨b,0,ϋ⟩)):=(by rw[Lib.cell_of_heap N];rfl);have c1:w1.cell? ⟨b,1,ϋ⟩=ϊ (δ I l.length J):=(by rw[Lib.cell_of_heap N];rfl);have ad:w1.ownsRow B 5 1 (δ I l.length J) (l.map λc=>(c.toNat:Int)).length ((l.map λc=>(c.toNat:Int)).map (Value.int .u8)):=(by rw[B9,<-ai];exact O))) | (at_builtin;refine qU _ rfl _ _ 35 rfl B 5 av (υ 0) 1 underlying35 hi aq ar au rfl _ .u8 (l.map λc=>(c.toNat:Int)) rfl (ad.alloc _) _ [10] rfl (SlI.lit .u8 w1 [10] 5 _ 1 _ η rfl η η) (by simp;omega) ζ (by simp;omega) ?_))
 intro v' w2 U ac ak;have aD:b<w1.heap.size:=by omega
 have H:w2.heap[b]? =ϊ (.cells #[γ b,δ I l.length J] 212 (0,0)):=by
  rw[ac.block b (by simp;omega) (λe=>ap e.symm)];exact qs N _
 have ax:w2.cell? ⟨b,0,ϋ⟩=ϊ (π (ϊ ⟨b,0,ϋ⟩)):=by rw[Lib.cell_of_heap H];rfl
 have ay:w2.cell? ⟨b,1,ϋ⟩=ϊ (δ I l.length J):=by rw[Lib.cell_of_heap H];rfl
 have aA:w2.frozen? ⟨b,1,ϋ⟩=ύ:=Lib.frozen_of_heap H 1;have ae:jt (λx=>x∈F) w w2:=(aa.more X8).trans ((jt.of_grown ac).mono λk d=>ab k d);obtain⟨g,ao,am,M,Y,cap,rfl⟩: ∃g,(g∈F∨w.heap.size<=g/\g<w2.heap.size)/\(∀k,v'.ownBlock=ϊ k->k∈g::F)/\ ∃M Y cap,v'= δ M Y cap:=by
  rcases id U.2 with ⟨rfl,_⟩ | ⟨g,cap,cur,rfl,_,an,_⟩
  ·exact⟨b,ϑ hF,(λk d=>by cases d),_,_,_,rfl⟩
  ·refine⟨g, ?_,(λk d=>by injection d with d;subst d;exact ϛ),_,_,_,rfl⟩;rcases ak with e | e
   ·exact ϑ (ab g e.symm)
   ·have az:g=w1.heap.size+1:=by simpa [Value.ownBlock] using e
    exact ϕ ⟨τ,lt_of_block an⟩
 have ag:Hid (w2.ownsRow B 5 1 (δ M Y cap) (l++[10]).length (Lib.byteCells (l++[10]))):=κ (by
  have ah:Lib.byteCells (l++[10])=List.map (Value.int .u8∘λc:UInt8=>(c.toNat:Int)) l++[υ 10]:=by unfold Lib.byteCells;rw[ϻ];rfl
  rw[Ϗ,ah]
  exact U)
 clear U O ad;go_wp2;go_ret;refine⟨rfl,ae.set hF _,g, ?_,Sn (ϫ _ hF) aj H ?_ am⟩
 ·simpa [World.setCell] using ao
 ·exact ag.o
structure Om (s:ByteArray) (ps:List ByteArray):Prop where
 split:Lib.splitB ⟨#[32]⟩ 0 (Lib.countB s ⟨#[32]⟩) s=ps
 cnt:Lib.countB s ⟨#[32]⟩+1=ps.length
 few:ps.length<=100
 size:s.size<4294967281
 ne: ∀x∈ps,(x.data.toList==([]:List UInt8))=ύ
def Sh {s:ByteArray} {ps:List ByteArray} (h:Om s ps) {aD:Int} (w:World) (av:w.cell? ⟨OQ,0,ϋ⟩=ϊ (ι aD)):
  Calls prog 99 #[.string s] w λe w'=>(∃I cap,e= .returned (δ I ps.length cap)/\SlP 1 RTx w' (δ I ps.length cap) ps)/\ql w w':=by
 obtain⟨aB,hi,aw,ax,ay⟩:=info_parts (P:=prog) (e:=9) (z:= .string ByteArray.empty) (size:=1) (bytes:=16) ξ;obtain⟨ac,ad,aG,ae,af⟩:=h;have ab:=κ (So s ⟨#[32]⟩ w ae av ζ);rw[ac,ad] at ab;have am:Hid (∀i (hi:i<ps.length),(ps[i].toList==([]:List UInt8))=ύ):=κ (λi hi=>by rw[ByteArray.toList_eq];exact af _ (ϡ hi));clear ac ad ae af
 go_enter func99,ntmps99
 go_wp2_with ((go_at_call 98;(go_call ab.o as e w1 ⟨rfl,N⟩;have ap:Hid (ql w w1):=κ (by rw[N];exact ql.alloc _ _);have aj:Hid (w1.heap[w.heap.size]? =ϊ (.cells (ps.map Value.string).toArray 9 (0,0))):=κ (by rw[N];exact qj _ _);clear N)))
 go_loopw [3,9] (λu U wr=> ∃i:Nat,i<=ps.length/\U= ι i/\(∃aa Y M,u= δ aa Y M)/\je 1 RTx (λ_=>False) wr w1.heap.size 9 u (ps.take i)/\ql w1 wr) (λ_ U _=>ps.length-(intOf U).toNat)
 case atStart=>exact⟨0,τ,rfl,⟨_,_,_,rfl⟩,je.nil _ _ _ _ _ _,ql.refl _⟩
 case round=>
  obtain⟨i,aH,rfl,⟨aa,Y,M,rfl⟩,ai,ah⟩:=hrel;have J:=κ ai;have H:=κ ah;clear ai ah;by_cases hlt:i<ps.length
  ·have au:(i:Int)<(ps.length:Int):=by omega
   have aE:wr.cell? ⟨w.heap.size,i,ϋ⟩=ϊ (.string ps[i]):=qm (qq H.o aj.o) i (by simp[ϖ hlt]);have aI:=am.o i hlt;have ao:Hid (ps.take (i+1)=ps.take i++[ps[i]]):=κ (Φ hlt);have aJ:(ps.take i).length<=100:=by rw[Ϡ];omega
   generalize ps[i]=x at *;generalize ps.take i=fl at *;have an:=κ (J.o.on (ql.alloc wr (.cells #[.string x] 9)));have ak:Hid (∀b,(δ aa Y M).ownBlock=ϊ b->w1.heap.size<=b):=κ (λb h=>J.o.ge h)
   go_wp2_with (at_builtin;(refine jN (R:=RTx) (D:=λ_=>False) _ rfl (.tmp 15) (.tmp 17) 215 rfl w1.heap.size 9 aB (.string ByteArray.empty) 1 16 underlying215 hi aw ax ay rfl ζ _ fl rfl an.o wr.heap.size [.string x] x rfl rfl (zS η) X9 (λw' _=>rfl) (λb h=>h.elim) ζ τ (H.o.al _).size ?_;intro v' w8 d ag ar;have aC:Hid (ql w1 w8):=κ (Below.grown (H.o.al _) ag (H.o.al _).size ak.o);obtain⟨aL,aK,aF,rfl,az,aA⟩:=d.shape;have aq:=κ d;clear d ag ar az aA))
   go_roundw
   case rel=>exact⟨i+1,τ,by go_num,⟨_,_,_,rfl⟩,by rw[ao.o];exact aq.o,aC.o⟩
   case measure=>simp[intOf];omega
  ·obtain rfl:i=ps.length:=by omega
   have au: ¬(ps.length:Int)<(ps.length:Int):=by omega
   go_wp2;go_ret;have d:=J.o;rw[ϱ] at d;have O:=d.sl ζ;obtain⟨I,cap,e,_⟩:=id O;rw[e] at O ⊢;exact⟨⟨I,cap,rfl,O⟩,ap.o.trans H.o⟩
def scT:ByteArray:=⟨#[114,111,111,109,32,50,32,50,32,49,32,49,32,50,32,49,10,112,117,98,108,105,115,104,32,48,32,55,32,56,32,57,10,106,111,105,110,32,48,32,53,48,32,53,32,49,48,48,10,116,97,107,101,32,48,32,48,32,48,10,107,101,121,32,55,32,49,32,57,10,116,117,114,110,32,49,10,119,114,111,116,101,32,48]⟩
def scL:List ByteArray:=[⟨#[114,111,111,109,32,50,32,50,32,49,32,49,32,50,32,49]⟩,⟨#[112,117,98,108,105,115,104,32,48,32,55,32,56,32,57]⟩,⟨#[106,111,105,110,32,48,32,53,48,32,53,32,49,48,48]⟩,⟨#[116,97,107,101,32,48,32,48,32,48]⟩,⟨#[107,101,121,32,55,32,49,32,57]⟩,⟨#[116,117,114,110,32,49]⟩,⟨#[119,114,111,116,101,32,48]⟩]
def scS:Lib.splitB ⟨#[10]⟩ 0 (Lib.countB scT ⟨#[10]⟩) scT=scL:=by kernel_rfl
def scC:Lib.countB scT ⟨#[10]⟩=6:=by kernel_rfl
def qag (w:World):Calls prog 161 #[.string ⟨#[114,111,111,109]⟩] w λe w'=>e= .returned (.string ⟨#[110,110,110,110,110,110]⟩)/\w'=w:=by
 go_enter func161,ntmps161
 go_wp2;go_ret;exact⟨rfl,rfl⟩
def TH:Om ⟨#[114,111,111,109,32,50,32,50,32,49,32,49,32,50,32,49]⟩ [⟨#[114,111,111,109]⟩,⟨#[50]⟩,⟨#[50]⟩,⟨#[49]⟩,⟨#[49]⟩,⟨#[50]⟩,⟨#[49]⟩]:=⟨ξ,ξ,ζ,ζ,ζ⟩
def qar:Ol ⟨#[110,110,110,110,110,110]⟩ [⟨#[50]⟩,⟨#[50]⟩,⟨#[49]⟩,⟨#[49]⟩,⟨#[50]⟩,⟨#[49]⟩] [2,2,1,1,2,1]:=⟨rfl,ζ,ζ,rfl,λi h d H=>by
 match i,h with
 | 0,_=>exact(⟨ζ,ζ,ζ,ζ,ζ⟩:NH ⟨#[50]⟩ 999999999 2)
 | 1,_=>exact(⟨ζ,ζ,ζ,ζ,ζ⟩:NH ⟨#[50]⟩ 999999999 2)
 | 2,_=>exact(⟨ζ,ζ,ζ,ζ,ζ⟩:NH ⟨#[49]⟩ 999999999 1)
 | 3,_=>exact(⟨ζ,ζ,ζ,ζ,ζ⟩:NH ⟨#[49]⟩ 999999999 1)
 | 4,_=>exact(⟨ζ,ζ,ζ,ζ,ζ⟩:NH ⟨#[50]⟩ 999999999 2)
 | 5,_=>exact(⟨ζ,ζ,ζ,ζ,ζ⟩:NH ⟨#[49]⟩ 999999999 1)⟩
def qaf (w:World):Calls prog 161 #[.string ⟨#[112,117,98,108,105,115,104]⟩] w λe w'=>e= .returned (.string ⟨#[110,110,110,110]⟩)/\w'=w:=by
 go_enter func161,ntmps161
 go_wp2;go_ret;exact⟨rfl,rfl⟩
def TG:Om ⟨#[112,117,98,108,105,115,104,32,48,32,55,32,56,32,57]⟩ [⟨#[112,117,98,108,105,115,104]⟩,⟨#[48]⟩,⟨#[55]⟩,⟨#[56]⟩,⟨#[57]⟩]:=⟨ξ,ξ,ζ,ζ,ζ⟩
def qaq:Ol ⟨#[110,110,110,110]⟩ [⟨#[48]⟩,⟨#[55]⟩,⟨#[56]⟩,⟨#[57]⟩] [0,7,8,9]:=⟨rfl,ζ,ζ,rfl,λi h d H=>by
 match i,h with
 | 0,_=>exact(⟨ζ,ζ,ζ,ζ,ζ⟩:NH ⟨#[48]⟩ 999999999 0)
 | 1,_=>exact(⟨ζ,ζ,ζ,ζ,ζ⟩:NH ⟨#[55]⟩ 999999999 7)
 | 2,_=>exact(⟨ζ,ζ,ζ,ζ,ζ⟩:NH ⟨#[56]⟩ 999999999 8)
 | 3,_=>exact(⟨ζ,ζ,ζ,ζ,ζ⟩:NH ⟨#[57]⟩ 999999999 9)⟩
def qae (w:World):Calls prog 161 #[.string ⟨#[106,111,105,110]⟩] w λe w'=>e= .returned (.string ⟨#[110,110,115,110]⟩)/\w'=w:=by
 go_enter func161,ntmps161
 go_wp2;go_ret;exact⟨rfl,rfl⟩
def TE:Om ⟨#[106,111,105,110,32,48,32,53,48,32,53,32,49,48,48]⟩ [⟨#[106,111,105,110]⟩,⟨#[48]⟩,⟨#[53,48]⟩,⟨#[53]⟩,⟨#[49,48,48]⟩]:=⟨ξ,ξ,ζ,ζ,ζ⟩
def qap:Ol ⟨#[110,110,115,110]⟩ [⟨#[48]⟩,⟨#[53,48]⟩,⟨#[53]⟩,⟨#[49,48,48]⟩] [0,50,5,100]:=⟨rfl,ζ,ζ,rfl,λi h d H=>by
 match i,h with
 | 0,_=>exact(⟨ζ,ζ,ζ,ζ,ζ⟩:NH ⟨#[48]⟩ 999999999 0)
 | 1,_=>exact(⟨ζ,ζ,ζ,ζ,ζ⟩:NH ⟨#[53,48]⟩ 999999999 50)
 | 2,_=>exact(⟨ζ,ζ,ζ,ζ,ζ⟩:NH ⟨#[53]⟩ 65535 5)
 | 3,_=>exact(⟨ζ,ζ,ζ,ζ,ζ⟩:NH ⟨#[49,48,48]⟩ 999999999 100)⟩
def qad (w:World):Calls prog 161 #[.string ⟨#[116,97,107,101]⟩] w λe w'=>e= .returned (.string ⟨#[110,110,110]⟩)/\w'=w:=by
 go_enter func161,ntmps161
 go_wp2;go_ret;exact⟨rfl,rfl⟩
def TC:Om ⟨#[116,97,107,101,32,48,32,48,32,48]⟩ [⟨#[116,97,107,101]⟩,⟨#[48]⟩,⟨#[48]⟩,⟨#[48]⟩]:=⟨ξ,ξ,ζ,ζ,ζ⟩
def qao:Ol ⟨#[110,110,110]⟩ [⟨#[48]⟩,⟨#[48]⟩,⟨#[48]⟩] [0,0,0]:=⟨rfl,ζ,ζ,rfl,λi h d H=>by
 match i,h with
 | 0,_=>exact(⟨ζ,ζ,ζ,ζ,ζ⟩:NH ⟨#[48]⟩ 999999999 0)
 | 1,_=>exact(⟨ζ,ζ,ζ,ζ,ζ⟩:NH ⟨#[48]⟩ 999999999 0)
 | 2,_=>exact(⟨ζ,ζ,ζ,ζ,ζ⟩:NH ⟨#[48]⟩ 999999999 0)⟩
def qac (w:World):Calls prog 161 #[.string ⟨#[107,101,121]⟩] w λe w'=>e= .returned (.string ⟨#[110,115,110]⟩)/\w'=w:=by
 go_enter func161,ntmps161
 go_wp2;go_ret;exact⟨rfl,rfl⟩
def TB:Om ⟨#[107,101,121,32,55,32,49,32,57]⟩ [⟨#[107,101,121]⟩,⟨#[55]⟩,⟨#[49]⟩,⟨#[57]⟩]:=⟨ξ,ξ,ζ,ζ,ζ⟩
def qan:Ol ⟨#[110,115,110]⟩ [⟨#[55]⟩,⟨#[49]⟩,⟨#[57]⟩] [7,1,9]:=⟨rfl,ζ,ζ,rfl,λi h d H=>by
 match i,h with
 | 0,_=>exact(⟨ζ,ζ,ζ,ζ,ζ⟩:NH ⟨#[55]⟩ 999999999 7)
 | 1,_=>exact(⟨ζ,ζ,ζ,ζ,ζ⟩:NH ⟨#[49]⟩ 65535 1)
 | 2,_=>exact(⟨ζ,ζ,ζ,ζ,ζ⟩:NH ⟨#[57]⟩ 999999999 9)⟩
def qab (w:World):Calls prog 161 #[.string ⟨#[116,117,114,110]⟩] w λe w'=>e= .returned (.string ⟨#[116]⟩)/\w'=w:=by
 go_enter func161,ntmps161
 go_wp2;go_ret;exact⟨rfl,rfl⟩
def Tz:Om ⟨#[116,117,114,110,32,49]⟩ [⟨#[116,117,114,110]⟩,⟨#[49]⟩]:=⟨ξ,ξ,ζ,ζ,ζ⟩
def qam:Ol ⟨#[116]⟩ [⟨#[49]⟩] [1]:=⟨rfl,ζ,ζ,rfl,λi h d H=>by
 match i,h with
 | 0,_=>exact(⟨ζ,ζ,ζ,ζ,ζ⟩:NH ⟨#[49]⟩ 20 1)⟩
def qaa (w:World):Calls prog 161 #[.string ⟨#[119,114,111,116,101]⟩] w λe w'=>e= .returned (.string ⟨#[110]⟩)/\w'=w:=by
 go_enter func161,ntmps161
 go_wp2;go_ret;exact⟨rfl,rfl⟩
def Ty:Om ⟨#[119,114,111,116,101,32,48]⟩ [⟨#[119,114,111,116,101]⟩,⟨#[48]⟩]:=⟨ξ,ξ,ζ,ζ,ζ⟩
def qal:Ol ⟨#[110]⟩ [⟨#[48]⟩] [0]:=⟨rfl,ζ,ζ,rfl,λi h d H=>by
 match i,h with
 | 0,_=>exact(⟨ζ,ζ,ζ,ζ,ζ⟩:NH ⟨#[48]⟩ 999999999 0)⟩
def TO {I:World} (h:Pl I pb (ϊ tp4) F w) (ad:Lib.TabIs prog I N9 .u64 Lib.pow10Tab) (O: ∀i y,([1]:List Int)[i]? =ϊ y->w.cell? ⟨g,i,ϋ⟩=ϊ (ι y)):
  Calls prog 218 #[γ pb,.string ⟨#[116,117,114,110]⟩,δ (ϊ ⟨g,0,ϋ⟩) 1 cap] w λe w'=>e= .returned (.string ⟨#[53]⟩)/\Pl I pb (ϊ tp5) F w'/\PS pb F w w':=by
 obtain⟨R,ac,N⟩:=h.room;have ae:w.cell? ⟨pb,0,ϋ⟩=ϊ (π (ϊ ⟨R,0,ϋ⟩)):=qm N 0 rfl;have c1:=O 0 1 rfl;have U:=κ (Tw h);clear h ac N O
 go_enter func218,ntmps218
 go_wp2_with (first | (go_at_call 267;(go_call U.o as e w5 ⟨rfl,d,t5⟩;have J:=κ d;have aa:=κ t5;have M:=κ (Tu 5 ζ w5 (NK ad d.2.2.1));rw[TY] at M;clear d t5)) | (go_at_call 159;(go_call M.o as e w6 ⟨rfl,H⟩;have Y:=κ (J.o.on H);have ab:=κ (aa.o.trans (J.o.stay H));clear H)))
 go_ret;exact⟨rfl,Y.o,ab.o⟩
def do5 {d:World} (h:Pl d pb (ϊ tp4) F w) (Y:Lib.TabIs prog d N9 .u64 Lib.pow10Tab) (J: ∀i y,([1]:List Int)[i]? =ϊ y->w.cell? ⟨g,i,ϋ⟩=ϊ (ι y)):
  Calls prog 162 #[γ pb,.string ⟨#[116,117,114,110]⟩,δ (ϊ ⟨g,0,ϋ⟩) 1 cap] w λe w'=>e= .returned (.string ⟨#[53]⟩)/\Pl d pb (ϊ tp5) F w'/\PS pb F w w':=by
 obtain⟨R,U,I⟩:=h.room;have aa:w.cell? ⟨pb,0,ϋ⟩=ϊ (π (ϊ ⟨R,0,ϋ⟩)):=qm I 0 rfl;have M:=κ (TO (cap:=cap) h Y J);clear h U I J
 go_enter func162,ntmps162
 go_wp2_with ((go_at_call 218;(go_call M.o as e w5 ⟨rfl,H,t5⟩;have N:=κ H;have O:=κ t5;clear H t5)))
 go_ret;exact⟨rfl,N.o,O.o⟩
def TN {H:World} (h:Pl H pb (ϊ tp5) F w) (aa:Lib.TabIs prog H N9 .u64 Lib.pow10Tab) (M: ∀i y,([0]:List Int)[i]? =ϊ y->w.cell? ⟨g,i,ϋ⟩=ϊ (ι y)):
  Calls prog 218 #[γ pb,.string ⟨#[119,114,111,116,101]⟩,δ (ϊ ⟨g,0,ϋ⟩) 1 cap] w λe w'=>e= .returned (.string ⟨#[48,58,53,58,49,48,48]⟩)/\Pl H pb (ϊ tp5) F w'/\PS pb F w w':=by
 obtain⟨R,Y,J⟩:=h.room;have ab:w.cell? ⟨pb,0,ϋ⟩=ϊ (π (ϊ ⟨R,0,ϋ⟩)):=qm J 0 rfl;have c1:=M 0 0 rfl;have N:=κ (SY h aa);have I:=κ h;clear h Y J M
 go_enter func218,ntmps218
 go_wp2_with ((go_at_call 269;(go_call N.o as e w5 ⟨rfl,d⟩;have O:=κ (I.o.on d);have U:=κ (I.o.stay d);clear d)))
 go_ret;exact⟨rfl,O.o,U.o⟩
def do6 {d:World} (h:Pl d pb (ϊ tp5) F w) (Y:Lib.TabIs prog d N9 .u64 Lib.pow10Tab) (J: ∀i y,([0]:List Int)[i]? =ϊ y->w.cell? ⟨g,i,ϋ⟩=ϊ (ι y)):
  Calls prog 162 #[γ pb,.string ⟨#[119,114,111,116,101]⟩,δ (ϊ ⟨g,0,ϋ⟩) 1 cap] w λe w'=>e= .returned (.string ⟨#[48,58,53,58,49,48,48]⟩)/\Pl d pb (ϊ tp5) F w'/\PS pb F w w':=by
 obtain⟨R,U,I⟩:=h.room;have aa:w.cell? ⟨pb,0,ϋ⟩=ϊ (π (ϊ ⟨R,0,ϋ⟩)):=qm I 0 rfl;have M:=κ (TN (cap:=cap) h Y J);clear h U I J
 go_enter func162,ntmps162
 go_wp2_with ((go_at_call 218;(go_call M.o as e w5 ⟨rfl,H,t5⟩;have N:=κ H;have O:=κ t5;clear H t5)))
 go_ret;exact⟨rfl,N.o,O.o⟩
def SW:Nat->ByteArray
 | 0=>⟨#[114,111,111,109,32,50,32,50,32,49,32,49,32,50,32,49]⟩
 | 1=>⟨#[112,117,98,108,105,115,104,32,48,32,55,32,56,32,57]⟩
 | 2=>⟨#[106,111,105,110,32,48,32,53,48,32,53,32,49,48,48]⟩
 | 3=>⟨#[116,97,107,101,32,48,32,48,32,48]⟩
 | 4=>⟨#[107,101,121,32,55,32,49,32,57]⟩
 | 5=>⟨#[116,117,114,110,32,49]⟩
 | _=>⟨#[119,114,111,116,101,32,48]⟩
def RT:Nat->List ByteArray
 | 0=>[⟨#[114,111,111,109]⟩,⟨#[50]⟩,⟨#[50]⟩,⟨#[49]⟩,⟨#[49]⟩,⟨#[50]⟩,⟨#[49]⟩]
 | 1=>[⟨#[112,117,98,108,105,115,104]⟩,⟨#[48]⟩,⟨#[55]⟩,⟨#[56]⟩,⟨#[57]⟩]
 | 2=>[⟨#[106,111,105,110]⟩,⟨#[48]⟩,⟨#[53,48]⟩,⟨#[53]⟩,⟨#[49,48,48]⟩]
 | 3=>[⟨#[116,97,107,101]⟩,⟨#[48]⟩,⟨#[48]⟩,⟨#[48]⟩]
 | 4=>[⟨#[107,101,121]⟩,⟨#[55]⟩,⟨#[49]⟩,⟨#[57]⟩]
 | 5=>[⟨#[116,117,114,110]⟩,⟨#[49]⟩]
 | _=>[⟨#[119,114,111,116,101]⟩,⟨#[48]⟩]
def RV:Nat->List UInt8
 | 0=>[111,107]
 | 1=>[111,107]
 | 2=>[111,107]
 | 3=>[111,107]
 | 4=>[111,107]
 | 5=>[111,107,32,53]
 | _=>[111,107,32,48,58,53,58,49,48,48]
def scR:Nat->Option RmS
 | 0=>ϋ
 | 1=>ϊ tp0
 | 2=>ϊ tp1
 | 3=>ϊ tp2
 | 4=>ϊ tp3
 | 5=>ϊ tp4
 | 6=>ϊ tp5
 | _=>ϊ tp5
def Oj (j:Nat):List UInt8:=(List.range j).flatMap λk=>RV k++[10]
def RD (j:Nat):Oj (j+1)=Oj j++RV j++[10]:=by
 unfold Oj;rw[I0,P0];simp
def qa4: ∀j,j<7->(Oj j).length<=100/\(RV j).length<=20:=by decide
def Tx: ∀j,j<7->Om (SW j) (RT j)
 | 0,_=>TH
 | 1,_=>TG
 | 2,_=>TE
 | 3,_=>TC
 | 4,_=>TB
 | 5,_=>Tz
 | 6,_=>Ty
def Sp: ∀j,j<7->0<(RT j).length:=by decide
def TI {N:World} (O:Lib.TabIs prog N N9 .u64 Lib.pow10Tab): ∀j,j<7-> ∀(F:List Nat) (w:World) (c M cap:Nat),Pl N pb (scR j) F w->SlP 1 RTx w (δ (ϊ ⟨c,M,ϋ⟩) (RT j).length cap) (RT j)->
  Calls prog 101 #[γ pb,δ (ϊ ⟨c,M,ϋ⟩) (RT j).length cap] w λe w'=>e= .returned (.string ⟨(RV j).toArray⟩)/\Pl N pb (scR (j+1)) F w'/\PS pb F w w'
 | 0,_=>λF w c M cap h H=>NL (more:=[]) h H qag qar (by rw[ByteArray.toList_eq];decide) ζ (λF w g cap h I J d=>do0 h I J d)
 | 1,_=>λF w c M cap h H=>NL (more:=[]) h H qaf qaq (by rw[ByteArray.toList_eq];decide) ζ (λF w g cap h I J d=>do1 h I J d)
 | 2,_=>λF w c M cap h H=>NL (more:=[]) h H qae qap (by rw[ByteArray.toList_eq];decide) ζ (λF w g cap h I J d=>do2 h I J d)
 | 3,_=>λF w c M cap h H=>NL (more:=[]) h H qad qao (by rw[ByteArray.toList_eq];decide) ζ (λF w g cap h I J d=>do3 h I J d)
 | 4,_=>λF w c M cap h H=>NL (more:=[]) h H qac qan (by rw[ByteArray.toList_eq];decide) ζ (λF w g cap h I J d=>do4 h I J d)
 | 5,_=>λF w c M cap h H=>NL (more:=[53]) h H qab qam (by rw[ByteArray.toList_eq];decide) ζ (λF w g cap h I J d=>do5 h O d)
 | 6,_=>λF w c M cap h H=>NL (more:=[48,58,53,58,49,48,48]) h H qaa qal (by rw[ByteArray.toList_eq];decide) ζ (λF w g cap h I J d=>do6 h O d)
def St: ∀j,j<7->(scL.map Value.string).toArray[j]? =ϊ (.string (SW j)):=by
 intro j d
 match j,d with
 | 0,_=>rfl
 | 1,_=>rfl
 | 2,_=>rfl
 | 3,_=>rfl
 | 4,_=>rfl
 | 5,_=>rfl
 | 6,_=>rfl
def scOut:List UInt8:=[111,107,10,111,107,10,111,107,10,111,107,10,111,107,10,111,107,32,53,10,111,107,32,48,58,53,58,49,48,48,10]
def TM:Oj 7=scOut:=by decide
def qai {aY:Int} (w:World) (au:w.cell? ⟨OQ,0,ϋ⟩=ϊ (ι aY)) (aU:Lib.TabIs prog w N9 .u64 Lib.pow10Tab):
  Calls prog 39 #[.string scT] w λe w'=>e= .returned (.tuple #[.string ⟨scOut.toArray⟩,ι 0])/\ql w w':=by
 have bB:(scT.size:Int)=84:=by decide
 have aS:OQ<w.heap.size:=(Gb au).2;obtain⟨W1,aq⟩:=ν (w.alloc (.cells #[π ϋ,()] 212));obtain⟨W2,ar⟩:=ν (W1.alloc (.cells #[π ϋ] 214));have ak:ql w W1:=by rw[<-aq];exact ql.alloc _ _
 have U:ql W1 W2:=by rw[<-ar];exact ql.alloc _ _
 have av:W1.heap.size=w.heap.size+1:=by rw[<-aq];simp
 have aT:W2.heap.size=w.heap.size+2:=by rw[<-ar];simp[av]
 have aG:=κ (λw' (m:ql w w')=>show w'.cell? ⟨OQ,0,ϋ⟩=ϊ (ι aY) from by rw[m.cells _ _ aS];exact au);have aj:=κ (So scT ⟨#[10]⟩ W2 ζ (aG.o _ (ak.trans U)) ζ);rw[scS,scC] at aj;have bi:=κ aU;have aB:Hid (W2.heap[w.heap.size]? =ϊ (.cells #[π ϋ,()] 212 (0,0))):=κ (qq U (by rw[<-aq];exact qj _ _));have aC:Hid (W2.heap[W1.heap.size]? =ϊ (.cells #[π ϋ] 214 (0,0))):=κ (by rw[<-ar];exact qj _ _);have bl:=κ (ak.trans U);have aH:=κ av;have aI:=κ aT;clear au aU aS ak U av aT
 go_enter func39,ntmps39
 go_wp2_with ((go_at_call 98;(go_call aj.o as e M ⟨rfl,ac⟩;have al:Hid (ql W2 M):=κ (by rw[ac];exact ql.alloc _ _);have J:Hid (M.heap[W2.heap.size]? =ϊ (.cells (scL.map Value.string).toArray 9 (0,0))):=κ (by rw[ac];exact qj _ _);clear ac)))
 have bs:=aH.o;have bt:=aI.o;have bu:=qn J.o;have aP:Hid (∃H,W1.heap.size∉H/\W2.heap.size∉H/\Pl w W1.heap.size (scR 0) ([W1.heap.size,W2.heap.size]++H) M/\Bd w.heap.size H M w.heap.size (Oj 0)/\M.heap[W2.heap.size]? =ϊ (.cells (scL.map Value.string).toArray 9 (0,0))):=κ
  ⟨[w.heap.size],(by simp;omega),(by simp;omega),⟨η,λb d=>by simp at d;omega,bl.o.trans al.o,qq al.o aC.o⟩,⟨η,ϔ _,_,_,ϑ rfl,qq al.o aB.o,World.ownsRow_nil _ _ _ _,by simp[Value.ownBlock],λg h=>by cases h⟩,J.o⟩
 clear bs bt bu aj J aC aB
 go_loopw [15] (λaw wr=> ∃j:Nat,j<=7/\aw= ι j/\ ∃H,W1.heap.size∉H/\W2.heap.size∉H/\Pl w W1.heap.size (scR j) ([W1.heap.size,W2.heap.size]++H) wr/\Bd w.heap.size H wr w.heap.size (Oj j)/\wr.heap[W2.heap.size]? =ϊ (.cells (scL.map Value.string).toArray 9 (0,0))) (λaw _=>7-(intOf aw).toNat)
 case atStart=>exact⟨0,τ,rfl,aP.o⟩
 case round=>
  obtain⟨j,bA,rfl,H,ay,n2,N,d,af⟩:=hrel;have Y:=κ ay;have am:=κ n2;have ai:=κ N;have bf:=κ d;have bg:=κ af;by_cases hlt:j<7
  ·have br:(j:Int)<7:=by omega
   have bx:wr.cell? ⟨W2.heap.size,j,ϋ⟩=ϊ (.string (SW j)):=qm af j (St j hlt);have aK:=κ (Sh (Tx j hlt) wr (aG.o wr N.2.2.1));have aF:=κ (TI (pb:=W1.heap.size) bi.o j hlt);obtain⟨bw,aW⟩:=ν (RT j);have aV:=Sp j hlt;rw[aW] at aK aF aV;obtain⟨t1,t2⟩:=qa4 j hlt;have bq:=κ (RD j);have aE:=κ (⟨t1,t2⟩:(Oj j).length<=100/\(RV j).length<=20);generalize SW j=ln at *;clear ay n2 N d af aW t1 t2 aP
   go_wp2_with (first | (go_at_call 99;(go_call aK.o as e w1 ⟨⟨bv,cap,rfl,s1⟩,ax⟩;obtain⟨c,ag,cs,rfl,_,_,_,_⟩:=(show ∃b ag cs,bv=ϊ ⟨b,ag,ϋ⟩/\b<w1.heap.size/\cs.length=1/\(∀j,j<1->w1.cell? ⟨b,ag+0* 1+j,ϋ⟩=cs[j]?)/\RTx w1 cs bw[0] from (by obtain⟨bC,bz,e,_,ae,_⟩:=s1;injection e with e1 e2 ac;subst e1;exact ae 0 aV));have bd:=κ (ai.o.on ax);have bh:=κ (aF.o _ w1 c ag cap bd.o s1);have bp:=κ (ai.o.stay ax);clear s1 ax)) | (go_at_call 101;(go_call bh.o as e w2 ⟨rfl,ae,t2⟩;have ah:=κ ae;have ap:=κ (bp.o.trans t2);have bb:=κ (bf.o.more (F:=H) ⟨ap.o.1,λb d=>ap.o.2 b (ϓ _ d) (λe=>Y.o (e▸d))⟩);have bj:=κ (ap.o.blk η (λe=>by have:=aH.o;have:=aI.o;omega) bg.o);clear ae t2)) | (go_at_call 100;(go_call qay bb.o ⟨(RV j).toArray⟩ (by have:=aE.o;simp[ByteArray.size];omega) as e bD ⟨rfl,a3,I,aZ,aQ⟩;have az:=κ a3;have an:=κ aZ;have J:=κ aQ;clear a3 aZ aQ)) | (go_at_call 102;(go_call qah J.o (by have:=aE.o;simp;omega) as e w4 ⟨rfl,a4,ad,ba,aR⟩;have aA:=κ a4;have ao:=κ ba;have bc:=κ aR;clear a4 ba aR)))
   have aa:W1.heap.size∉I::H:=λe=>by
    rcases Ϯ.1 e with e | e
    ·rcases an.o with f | f
     ·exact Y.o (e▸f)
     ·have:=ah.o.lt W1.heap.size η;omega
    ·exact Y.o e
   have ab:W2.heap.size∉I::H:=λe=>by
    rcases Ϯ.1 e with e | e
    ·rcases an.o with f | f
     ·exact am.o (e▸f)
     ·have:=ah.o.lt W2.heap.size η;omega
    ·exact am.o e
   have O:=ah.o.mutA (Fn:=[I]) az.o (λb d=>ϓ _ d) Y.o (λb d=>by
    simp at d;subst d
    exact an.o.elim (λf=>ϑ (ϓ _ f)) ϕ)
   have aL:=az.o.blk bj.o am.o
   have aD:=O.mutA (Fn:=[ad]) aA.o (λb d=>by
    rcases Ϯ.1 d with e | e
    ·rw[e];simp
    ·exact ϓ _ (ϓ _ e)) aa (λb d=>by
    simp at d;subst d;rcases ao.o with f | f
    ·refine ϑ ?_;rcases Ϯ.1 f with e | e
     ·rw[e];simp
     ·exact ϓ _ (ϓ _ e)
    ·exact ϕ f)
   have aM:=aA.o.blk aL ab;have aN:W1.heap.size∉ad::I::H:=λe=>by
    rcases Ϯ.1 e with e | e
    ·rcases ao.o with f | f
     ·exact aa (e▸f)
     ·have:=O.lt W1.heap.size η;omega
    ·exact aa e
   have aO:W2.heap.size∉ad::I::H:=λe=>by
    rcases Ϯ.1 e with e | e
    ·rcases ao.o with f | f
     ·exact ab (e▸f)
     ·have:=O.lt W2.heap.size η;omega
    ·exact ab e
   have be:=κ (aD.sub (F':=[W1.heap.size,W2.heap.size]++(ad::I::H)) (λb d=>by
    rcases ϯ.1 d with e | e
    ·exact ϓ _ (ϓ _ (ϰ _ e))
    ·rcases Ϯ.1 e with e | e
     ·rw[e];simp
     ·rcases Ϯ.1 e with e | e
      ·rw[e];simp
      ·exact ϓ _ (ϓ _ (ϓ _ e))) η)
   have bk:=κ aM;have bn:=κ aN;have bo:=κ aO;clear aa ab O aL aD aM aN aO;go_roundw
   case rel=>exact⟨j+1,τ,by go_num,_,bn.o,bo.o,be.o,by rw[bq.o];exact bc.o,bk.o⟩
   case measure=>simp[intOf];omega
  ·obtain rfl:j=7:=by omega
   have br: ¬((7:Nat):Int)<7:=by omega
   have aJ:=κ (Ts w.heap.size w.heap.size (Oj 7) wr d.is N.2.2.1.size);rw[TM] at aJ;clear ay n2 N d af
   go_wp2_with ((go_at_call 103;(go_call aJ.o as e w5 ⟨rfl,aX⟩;have bm:=κ aX;clear aX)))
   go_ret2
   exact⟨rfl,Below.trans ai.o.2.2.1 bm.o⟩
def RC {N:Int} (w:World) (d:w.cell? ⟨OQ,0,ϋ⟩=ϊ (ι N)) (H:Lib.TabIs prog w N9 .u64 Lib.pow10Tab):
  Calls prog 8 #[] w λe w'=>e= .returned (μ ό)/\ql w w':=by
 have J:Hid (Calls prog 39 #[.string ⟨#[114,111,111,109,32,50,32,50,32,49,32,49,32,50,32,49,10,112,117,98,108,105,115,104,32,48,32,55,32,56,32,57,10,106,111,105,110,32,48,32,53,48,32,53,32,49,48,48,10,116,97,107,101,32,48,32,48,32,48,10,107,101,121,32,55,32,49,32,57,10,116,117,114,110,32,49,10,119,114,111,116,101,32,48]⟩] w λe w'=>e= .returned (.tuple #[.string ⟨#[111,107,10,111,107,10,111,107,10,111,107,10,111,107,10,111,107,32,53,10,111,107,32,48,58,53,58,49,48,48,10]⟩,ι 0])/\ql w w'):=κ (qai w d H);clear d H
 go_enter func8,ntmps8
 go_wp2_with ((go_at_call 39;(go_call J.o as e w5 ⟨rfl,I⟩;have M:=κ I;clear I)))
 go_ret;exact⟨rfl,M.o⟩
def qaM (c:CfR) (ab:Option Addr) (n cap:Nat) (w:World) {aa:Int} (d:w.cell? ⟨OQ,0,ϋ⟩=ϊ (ι aa)) (J:Lib.TabIs prog w N9 .u64 Lib.pow10Tab) (h:xY c=ύ):
  Calls prog 4 #[θ #[ι c.room,ι c.hold,ι c.wait,ι c.space,ι c.retry,ι c.most],δ ab n cap] w λe w'=>e= .returned (μ ό)/\ql w w':=by
 have O:=κ (YL c h);have N:=κ (λw' (m:ql w w')=>RC w' (by rw[m.cells _ _ (Gb d).2];exact d) (NK J m));clear h d J
 go_enter func4,ntmps4
 go_wp2_with (first | (go_at_call 8;(go_call N.o _ X8 as e w1 ⟨rfl,H⟩;have ac:=κ (λw' (m:ql w1 w')=>cfq c (H.trans m));obtain⟨I,ad,ae,af,ag,ah,ai⟩:=cfq c H;have U:=κ I;clear H I)) | (go_at_call 9;(go_call O.o _ as e w2 ⟨rfl,M⟩;have Y:Hid (ql w w2):=κ (U.o.trans M);clear M)))
 go_ret;exact⟨rfl,Y.o⟩
def qaF (c:CfR) (v:Value) (l:List A22) (w:World) {ai:Int} (J:w.cell? ⟨OQ,0,ϋ⟩=ϊ (ι ai)) (ab:Lib.TabIs prog w N9 .u64 Lib.pow10Tab) (h:xY c=ό) (M:SlP 14 uh w v l) (aa:yk l=ό):
  Calls prog 4 #[θ #[ι c.room,ι c.hold,ι c.wait,ι c.space,ι c.retry,ι c.most],v] w λe w'=>e= .returned (μ ό)/\ql w w':=by
 have af:=κ (JN c h);have N:=κ (λw1 (d:ql w w1)=>uS v l w1 (M.keep kj d));rw[aa] at N;have ae:=κ (λw' (m:ql w w')=>RC w' (by rw[m.cells _ _ (Gb J).2];exact J) (NK ab m));clear h aa J ab;obtain⟨am,cap,rfl,_⟩:=Yt M;clear M
 go_enter func4,ntmps4
 go_wp2_with (first | (go_at_call 8;(go_call ae.o _ X8 as e w1 ⟨rfl,d⟩;have ag:=κ (λw' (m:ql w1 w')=>cfq c (d.trans m));obtain⟨U,an,ao,ap,aq,ar,au⟩:=cfq c d;have O:=κ U;clear d U)) | (go_at_call 9;(go_call af.o _ as e w2 ⟨R,rfl,Y,ac⟩;have I:Hid (ql w1 w2):=κ ac;have ad:=κ Y;clear Y ac)) | (go_at_call 10;(go_call N.o _ (O.o.trans I.o) as e aj ⟨rfl,H⟩;have ak:=κ (ad.o.on H);have ah:Hid (ql w aj):=κ (O.o.trans (I.o.trans H));obtain⟨-,-,-,av,-⟩:=ag.o _ (I.o.trans H);have al:=κ (I.o.trans H);clear H)))
 go_ret;exact⟨rfl,ah.o⟩
def qaJ (c:CfR) (v:Value) (l:List A22) (w:World) {dy:Int} (I:w.cell? ⟨OQ,0,ϋ⟩=ϊ (ι dy)) (aC:Lib.TabIs prog w N9 .u64 Lib.pow10Tab) (h:xY c=ό) (bx:SlP 14 uh w v l) (bl:yk l=ύ):
  Calls prog 4 #[θ #[ι c.room,ι c.hold,ι c.wait,ι c.space,ι c.retry,ι c.most],v] w λe w'=>e= .returned (μ ό)/\ql w w':=by
 have de:=κ (JN c h);have bY:=κ (LgI.start h);have bT:=κ (λw1 (aD:ql w w1)=>uS v l w1 (bx.keep kj aD));rw[bl] at bT;have cY:=κ (λw' (m:ql w w')=>RC w' (by rw[m.cells _ _ (Gb I).2];exact I) (NK aC m));obtain⟨dY,cap,rfl,dQ,cF⟩:=Yt bx;have dd:=κ cF;have ci:=κ (Xj bl);have dP:l.length<=120:=ci.o.1;clear h bx bl cF I aC
 go_enter func4,ntmps4
 go_upto_region 9 with (first | (go_at_call 8;(go_call cY.o _ X8 as e w1 ⟨rfl,aD⟩;have dg:=κ (λw' (m:ql w1 w')=>cfq c (aD.trans m));obtain⟨cp,ea,eb,ec,ed,bw,ee⟩:=cfq c aD;have au:=κ cp;clear aD cp)) | (go_at_call 9;(go_call de.o _ as e w2 ⟨R,rfl,bi,cT⟩;have aO:Hid (ql w1 w2):=κ cT;have bD:=κ bi;clear bi cT)) | (go_at_call 10;(go_call bT.o _ (au.o.trans aO.o) as e dD ⟨rfl,aE⟩;have bE:=κ (bD.o.on aE);have dG:Hid (ql w dD):=κ (au.o.trans (aO.o.trans aE));obtain⟨-,-,-,fs,-⟩:=dg.o _ (aO.o.trans aE);have dF:=κ (aO.o.trans aE);clear aE)) | (go_at_call 11;(go_call Td _ as e w4 ⟨W,B,rfl,cz,cy,bw,cU⟩;have bF:=κ (bE.o.adds (Fn:=[W,B]) cU (λb d=>by simp at d;omega));have cr:=κ bw;have bV:=κ (show W<w4.heap.size/\B<w4.heap.size from ⟨cz.2,cy.2⟩);clear cz cy bw cU)))
 obtain⟨af,aP⟩:=ν (w4.alloc (.cells #[ι 0,ι 0,ι 0,ι 0,ι 0,ι 0] 46));have bb:Hid (ql w4 af):=κ (by rw[<-aP];exact ql.alloc _ _);have aH:Hid (AN 6 46 af w4.heap.size λ_=>0):=κ (by rw[<-aP];exact AN.zero (qj w4 _));have bG:Hid (RmR w1 af R (ud c) [w4.heap.size,W,B]):=κ (bF.o.adds (Fn:=[w4.heap.size]) bb.o (λb d=>by simp at d;subst d;exact⟨ϔ _,aH.o.lt⟩));have ct:=κ (cr.o.more bb.o);have bW:Hid (W<af.heap.size/\B<af.heap.size/\w4.heap.size<af.heap.size/\W≠w4.heap.size/\B≠w4.heap.size):=κ (by have:=bV.o;have:=aH.o.lt;omega);clear bV;rw[aP];clear aP;go_wp2;generalize w4.heap.size=sn at *;have bI:Hid (∃base,base=af.heap.size):=κ ⟨_,rfl⟩;obtain⟨base,cC⟩:=bI.o;rw[<-cC] at bW
 go_loopw [8,46] (λu i wr=> ∃j:Nat,j<=l.length/\i= ι j/\ ∃s ag sf ah,(∀b,u.ownBlock=ϊ b->b∈ah)/\RmR w1 wr R s (ah++[sn,W,B])/\LgI j s/\V7 wr W B ag (EF s) sf/\je 6 R6 (λ_=>False) wr base 81 u (vm (bkF s) s.pks.length)/\AN 6 46 wr sn (λk=>zL (k:Int) 1 s.book)/\base<=wr.heap.size) (λ_ i _=>l.length-(intOf i).toNat)
 case atStart=>exact⟨0,τ,rfl,_,_,_,[],(λb h=>by cases h),bG.o,bY.o,ct.o.congr (λ_ _=>rfl) (λ_=>rfl),je.nil _ _ _ _ _ _,aH.o.congr (λ_ _=>rfl),τ⟩
 case round=>
  obtain⟨j,dO,rfl,s,ag,sf,ah,cG,cM,O,ab,bm,cO,cB⟩:=hrel;have aL:=κ cM;have Y:=κ O;have cn:=κ ab;have cj:=κ cO;have bS:=κ cG;have bO:=κ cB;obtain⟨aF,dU,aw,rfl,cH,dr⟩:=bm.shape;rw[vt] at cH;subst cH;have aM:=κ bm;clear cM O ab cO cG bm cB dr bD bE bF bG bY cr ct aH bb cC bI;by_cases hlt:j<l.length
  ·obtain⟨b,dz,M,J,rfl,d,aC,cN,cI,cK,cJ,cP⟩:=dd.o j hlt;have cf:=κ (aC wr (au.o.trans aL.o.more));have aX:=κ (ci.o.2 j hlt);have ch:=κ cN;have ao:=κ cI;have cm:=κ cK;have cb:=κ cJ;have cl:=κ cP;have ds:(j:Int)<(l.length:Int):=by omega
   clear aC cN cI cK cJ cP d;generalize l.getD j jv=x at *
   go_upto_region 13 with (refine wpList_load_mid rfl 42 (.tmp 48) rfl b (dz+j* 14) rfl [ι x.act,ι x.sub,ι x.pub,ι x.layer,δ M x.b.length J,ι x.w.1,ι x.w.2,x.acc,ω x.own,ω x.stamp,φ x.seq,ω x.s0,ω x.s1,ω x.s2] _ cf.o underlying42 rfl ξ ?_)
   obtain⟨W6,az⟩:=ν ((wr.alloc (.cells #[ι x.act,ι x.sub,ι x.pub,ι x.layer,δ M x.b.length J,ι x.w.1,ι x.w.2,x.acc,ω x.own,ω x.stamp,φ x.seq,ω x.s0,ω x.s1,ω x.s2] 42)).alloc (.cells #[ι 0,ι 0,ι 0,ι 0,ι 0,ι 0] 46));have am:Hid (ql wr W6):=κ (by rw[<-az];exact X8.al _);have bC:Hid (W6.heap[wr.heap.size]? =ϊ (.cells #[ι x.act,ι x.sub,ι x.pub,ι x.layer,δ M x.b.length J,ι x.w.1,ι x.w.2,x.acc,ω x.own,ω x.stamp,φ x.seq,ω x.s0,ω x.s1,ω x.s2] 42 (0,0))):=κ (by rw[<-az];exact qq X8 (qj wr _));have be:Hid (AN 6 46 W6 (wr.heap.size+1) λ_=>0):=κ (by rw[<-az];exact AN.zero (qC η));have N:Hid (RmR w1 W6 R s (ah++[wr.heap.size+1,wr.heap.size,sn,W,B])):=κ ((aL.o.adds (Fn:=[wr.heap.size+1,wr.heap.size]) am.o (λb d=>by simp at d;have:=be.o.lt;omega)).sub (λb d=>by simp at d ⊢;rcases d with h | h | h | h | h | h<;>simp[h]))
   have ac:Hid (wr.heap.size≠wr.heap.size+1/\((W≠sn/\W≠wr.heap.size+1/\W≠wr.heap.size)/\(B≠sn/\B≠wr.heap.size+1/\B≠wr.heap.size)/\sn≠wr.heap.size+1/\sn≠wr.heap.size)/\ ∀b,(δ aF s.pks.length aw).ownBlock=ϊ b->b≠W/\b≠B/\b≠sn/\b≠wr.heap.size+1/\b≠wr.heap.size):=κ (by
    have cv:=bW.o;have bi:=bO.o;refine⟨τ,⟨⟨cv.2.2.2.1,τ,τ⟩,⟨cv.2.2.2.2,τ,τ⟩,τ,τ⟩,λb d=> ?_⟩;have dM:=aM.o.lt d;have dN:=aM.o.ge d
    omega)
   have co:Hid (∀y:Int,(s.ln y).W.length<=1000000):=κ (λy=>by have:=Sl Y.o.ok y;omega);have da:Hid (base<=W6.heap.size):=κ (Ϙ bO.o am.o.size);rw[az];clear az;go_wp2;have cc:=κ (cn.o.more am.o);have cg:=κ (aM.o.on am.o);have ck:=κ (cj.o.more am.o);clear cf am aL cn aM cj;generalize wr.heap.size+1=wb at *;generalize wr.heap.size=xb at *
   go_loopw [51] (λi U=> ∃y:Nat,y<=6/\i= ι y/\AN 6 46 U wb (λk=>if k<y then ((s.ln (k:Int)).W.length:Int) else 0)/\jt (λb=>b=wb) W6 U) (λi _=>6-(intOf i).toNat)
   case atStart=>exact⟨0,τ,rfl,be.o.congr (λk _=>ώ τ),jt.refl _ _⟩
   case round=>
    obtain⟨y,cQ,rfl,an,I⟩:=hrel;have ad:=κ an;have H:=κ I;have ba:=κ (N.o.mut (I.mono (λb d=>by rw[d];simp)));clear an I;by_cases hlt6:y<6
    ·have bn:(y:Int)<6:=by omega
     have di:=κ (MO ba.o (y:Int) (co.o y))
     go_wp2_with ((go_at_call 14;(go_call di.o as e gx ⟨⟨gw,rfl,cW⟩,bs⟩;obtain⟨dX,dV,dH,rfl,dt,_⟩:=cW.shape;subst dt;have dk:=κ bs;have bB:=κ (ad.o.more bs);obtain⟨dT,dK⟩:=bB.o.get y hlt6;clear cW bs)))
     go_roundw
     case rel=>exact⟨y+1,τ,by go_num,(bB.o.set y hlt6 _).congr (λk _=>SE k y (λk=>((s.ln (k:Int)).W.length:Int))),(H.o.trans (jt.of_more dk.o)).set rfl _⟩
     case measure=>simp[intOf];omega
    ·obtain rfl:y=6:=by omega
     have bn: ¬((6:Nat):Int)<6:=by omega
     have aj:Hid (LgC w1 wr R W B sn wb xb base ah [wb,xb,sn,W,B] (δ aF s.pks.length aw) s (vm (bkF s) s.pks.length) ag (EF s) sf (λk=>zL (k:Int) 1 s.book) (λk=>((s.ln (k:Int)).W.length:Int)) #[ι x.act,ι x.sub,ι x.pub,ι x.layer,δ M x.b.length J,ι x.w.1,ι x.w.2,x.acc,ω x.own,ω x.stamp,φ x.seq,ω x.s0,ω x.s1,ω x.s2]):=κ ⟨ba.o,λb d=>⟨bS.o b d,ac.o.2.2 b d⟩,η,ac.o.2.1,Q6 cg.o H.o (λb d=>(ac.o.2.2 b d).2.2.2.1),cc.o.away H.o ac.o.2.1.1.2.1 ac.o.2.1.2.1.2.1,ck.o.away H.o ac.o.2.1.2.2.1,ad.o.congr (λk O=>(ϐ O).symm),H.o.blk bC.o ac.o.1⟩;have bM:Hid (base<=wr.heap.size):=κ (Ϙ da.o H.o.size);clear ba ad H bS cg cc ck bC be N ac;have aN:=aj.o.rm.tkeys;have aV:=κ (HV aj.o.rm Y.o.ok τ x M J (ch.o.keep (au.o.trans aj.o.rm.more)) ao.o aX.o cb.o cm.o);have aa:=κ (Y.o.act aN x ao.o aX.o cl.o);have aZ:=κ (λ(w9:World) (Fv:List Nat) (h9:RmR w1 w9 R (doR s x).1 (Fv++[wb,xb,sn,W,B])) (q9:V7 w9 W B ag (EF s) sf)=>TT x h9 η η q9 Y.o.ok aN aa.o.ok M J);have bX:=κ (qbp.of Y.o aN x aa.o);have aY:=κ (λ(y:Nat) (cQ:y<6) (hn:s.pks.length<(doR s x).1.pks.length)=>(qby Y.o.ok.ow x (y:Int) (subIds_iff.2 ⟨τ,τ⟩) hn aa.o.pub).2);have aW:=κ (qbl Y.o.ok.ow x);generalize doR s x=sr at *;obtain⟨s2,cu,dI⟩:=sr;simp only at aV aZ aa bX aY aW;clear aN ch ao aX cb cm cl co;have dE:=λa0 bf bh a3 a4 w=>qbH a0 bf bh a3 a4 w
     go_upto_if 72 with (first | (refine wpList_load_mid rfl 42 (.tmp 11) rfl xb 0 rfl [ι x.act,ι x.sub,ι x.pub,ι x.layer,δ M x.b.length J,ι x.w.1,ι x.w.2,x.acc,ω x.own,ω x.stamp,φ x.seq,ω x.s0,ω x.s1,ω x.s2] _ (xy aj.o.box) underlying42 rfl ξ ?_) | (go_at_call 12;(go_call aV.o as e w8 ⟨rfl,cx,bz⟩;have aT:=κ (aj.o.call cx bz);have bN:Hid (base<=w8.heap.size):=κ (Ϙ bM.o bz.1);clear cx bz)) | (go_at_call 19;(go_call qbF aT.o.rm aa.o.ok as e w9 ⟨bf,bh,a3,a4,rfl,bt⟩;have ak:=κ (aT.o.more bt);have aI:Hid (base<=w9.heap.size):=κ (Ϙ bN.o bt.size);clear bt)))
     clear aj aT bM bN aV;generalize ab:decide (s.pks.length<s2.pks.length)=q;have cd:=κ ab;clear ab
     go_cut [8] from 74 to 123 (λu U=> ∃aG ax ai,u= δ aG s2.pks.length ax/\LgC w1 U R W B sn wb xb base ai [wb,xb,sn,W,B] u s2 (vm (vf s s2) s2.pks.length) ag (EF s) sf (λk=>zL (k:Int) 1 s.book) (λk=>((s.ln (k:Int)).W.length:Int)) #[ι x.act,ι x.sub,ι x.pub,ι x.layer,δ M x.b.length J,ι x.w.1,ι x.w.2,x.acc,ω x.own,ω x.stamp,φ x.seq,ω x.s0,ω x.s1,ω x.s2]/\base<=U.heap.size)
     case first=>
      rcases aW.o with e | e
      ·obtain rfl:q=ύ:=by rw[<-cd.o];exact Ϩ τ
       have aq:=κ (show (∃aG ax ai,δ aF s.pks.length aw= δ aG s2.pks.length ax/\LgC w1 w9 R W B sn wb xb base ai [wb,xb,sn,W,B] (δ aF s.pks.length aw) s2 (vm (vf s s2) s2.pks.length) ag (EF s) sf (λk=>zL (k:Int) 1 s.book) (λk=>((s.ln (k:Int)).W.length:Int)) #[ι x.act,ι x.sub,ι x.pub,ι x.layer,δ M x.b.length J,ι x.w.1,ι x.w.2,x.acc,ω x.own,ω x.stamp,φ x.seq,ω x.s0,ω x.s1,ω x.s2]/\base<=w9.heap.size) from ⟨aF,aw,ah,by rw[e],{ak.o with row:=by rw[e,KS (g':=bkF s) (λx i hi=>qaT x i hi)];exact ak.o.row},aI.o⟩)
       go_wp2_with fail
       go_meet;exact aq.o
      ·obtain rfl:q=ό:=by rw[<-cd.o];exact Ϫ τ
       obtain⟨a,an⟩: ∃a,s2.pks[s.pks.length]? =ϊ a:=⟨_,ϖ τ⟩;have bH:Hid (acP s2.pks (s.pks.length:Int)=a):=κ (by unfold acP;rw[Ψ,ϒ,an];rfl);have ca:=κ (Ly ak.o.rm aa.o.ok τ an);have df:Hid (∀y:Nat,vf s s2 (y:Int) (s.pks.length:Int)=if EF s (y:Int)=a.o.1 then 0 else -1):=κ (λy=>by unfold vf;rw[ώ τ,bH.o]);have bR:=κ e;clear an e
       go_upto_region 22 with ((go_at_call 15;(go_call ca.o as e w10 ⟨os,bu,bv,bp,ke,bo,rfl,-,bq⟩;have bP:=κ (ak.o.more bq);have cZ:Hid (base<=w10.heap.size):=κ (Ϙ aI.o bq.size);clear bq)))
       obtain⟨bd,ay⟩:=ν ((w10.alloc (.cells (Γi a.o.1 a.o.2 a.num a.pk os bp bu ke bv bo) 65)).alloc (.cells #[ι 0,ι 0,ι 0,ι 0,ι 0,ι 0] 81));have dj:Hid (ql w10 bd):=κ (by rw[<-ay];exact X8.al _);have dm:Hid (bd.heap[w10.heap.size]? =ϊ (.cells (Γi a.o.1 a.o.2 a.num a.pk os bp bu ke bv bo) 65 (0,0))):=κ (by rw[<-ay];exact qq X8 (qj w10 _));have dl:Hid (AN 6 81 bd (w10.heap.size+1) λ_=>0):=κ (by rw[<-ay];exact AN.zero (qC η));clear ca ak aI;rw[ay];clear ay;go_wp2
       go_loopw [81] (λi U=> ∃y:Nat,y<=6/\i= ι y/\AN 6 81 U (w10.heap.size+1) (λk=>if k<y then vf s s2 (k:Int) (s.pks.length:Int) else 0)/\U.heap[w10.heap.size]? =ϊ (.cells (Γi a.o.1 a.o.2 a.num a.pk os bp bu ke bv bo) 65 (0,0))/\ql w10 U) (λi _=>6-(intOf i).toNat)
       case atStart=>exact⟨0,τ,rfl,dl.o.congr (λk _=>ώ τ),dm.o,dj.o⟩
       case round=>
        obtain⟨y,cQ,rfl,cA,cL,I⟩:=hrel;have ad:=κ cA;have bZ:=κ cL;have H:=κ I;have aU:=κ (bP.o.more I);clear cA cL I;by_cases hlt6:y<6
        ·have bn:(y:Int)<6:=by omega
         obtain⟨Bk,dn,hF⟩:=qba aU.o.rm (y:Int) (s.pks.length:Int) rfl;have bj:=aY.o y hlt6 (by have:=bR.o;omega);obtain⟨q,ab⟩:=ν (decide (EF s (y:Int)=a.o.1));rw[bH.o,ab] at bj;have ce:=κ ab;have aq:=κ hF;rw[bj] at aq;generalize (qh s2.book ((y:Int),(s.pks.length:Int))).getD 0=fv at *;have aK:=κ (df.o y);clear hF bj ab
         go_upto_region 26 with ((go_at_call 20;(go_call aq.o as e bA ⟨rfl,cS⟩;have av:=κ cS;clear cS)))
         have aR:=κ (ad.o.more av.o);have bc:=κ (qq av.o bZ.o);have cq:=κ (H.o.trans av.o);obtain⟨dp,dL⟩:=(aU.o.more av.o).who.pub y hlt6;have dZ:=β0 bc.o;obtain⟨dS,dJ⟩:=aR.o.get y hlt6;clear aq dn ad bZ H aU av;cases q
         case true=>
          have aB:EF s (y:Int)=a.o.1:=Ϛ ce.o;rw[ϐ aB] at aK;rw[aB] at dp;clear aB
          go_quiet (fail)
          go_wp2
          go_quiet (fail)
          go_wp2;go_roundw
          case rel=>exact⟨y+1,τ,by go_num,(aR.o.more ρ).congr (λk _=>by
           rw[SE k y (λk=>vf s s2 (k:Int) (s.pks.length:Int))];by_cases e:k=y
           ·subst e;rw[ϐ rfl,ώ (O1 _)];exact aK.o
           ·rw[ώ e]),qq ρ bc.o,cq.o.trans ρ⟩
          case measure=>simp[intOf];omega
         case false=>
          have aB: ¬EF s (y:Int)=a.o.1:=A5 ce.o;rw[ώ aB] at aK
          go_quiet (fail)
          go_wp2
          go_quiet (fail)
          go_wp2;go_roundw
          case rel=>exact⟨y+1,τ,by go_num,((aR.o.more ρ).set y hlt6 (-1)).congr (λk _=>by rw[SE k y (λk=>vf s s2 (k:Int) (s.pks.length:Int)),aK.o]),((jt.refl (λb=>b=w10.heap.size+1) _).set (p:=⟨w10.heap.size+1,y,ϋ⟩) rfl _).blk (qq ρ bc.o) τ,(cq.o.trans ρ).st η _⟩
          case measure=>simp[intOf];omega
        ·obtain rfl:y=6:=by omega
         have bn: ¬((6:Nat):Int)<6:=by omega
         have N:=κ ((ad.o.congr (f':=λk=>vf s s2 (k:Int) (s.pks.length:Int)) (λk O=>(ϐ O).symm)).six);have cD:base<=wr.heap.size:=Ϙ cZ.o H.o.size;have dR:s.pks.length<=1000:=by have:=Y.o.ok.num.pks;omega
         obtain⟨dx,hi,du,dv,dw⟩:=info_parts (P:=prog) (e:=81) (z:= θ #[ι 0,ι 0,ι 0,ι 0,ι 0,ι 0]) (size:=6) (bytes:=48) ξ;have dh:Hid (vm (bkF s) s.pks.length++[λx=>vf s s2 x (s.pks.length:Int)]=vm (vf s s2) s2.pks.length):=κ (by rw[bR.o,qa5,KS (g:=vf s s2) (g':=bkF s) (λx i hi=>qaT x i hi)]);have ae:Hid (six (λx=>vf s s2 x (s.pks.length:Int))=[ι (vf s s2 ((0:Nat):Int) (s.pks.length:Int)),ι (vf s s2 ((1:Nat):Int) (s.pks.length:Int)),ι (vf s s2 ((2:Nat):Int) (s.pks.length:Int)),ι (vf s s2 ((3:Nat):Int) (s.pks.length:Int)),ι (vf s s2 ((4:Nat):Int) (s.pks.length:Int)),ι (vf s s2 ((5:Nat):Int) (s.pks.length:Int))]):=κ rfl;generalize vf s s2 ((0:Nat):Int) (s.pks.length:Int)=g0 at N ae;generalize vf s s2 ((1:Nat):Int) (s.pks.length:Int)=g1 at N ae;generalize vf s s2 ((2:Nat):Int) (s.pks.length:Int)=g2 at N ae;generalize vf s s2 ((3:Nat):Int) (s.pks.length:Int)=g3 at N ae;generalize vf s s2 ((4:Nat):Int) (s.pks.length:Int)=g4 at N ae;generalize vf s s2 ((5:Nat):Int) (s.pks.length:Int)=g5 at N ae;have bQ:=κ ((bP.o.more H.o).more (ql.alloc wr (.cells #[ι g0,ι g1,ι g2,ι g3,ι g4,ι g5] 81)))
         go_wp2_with (first | (refine wpList_load_mid rfl 81 (.tmp 18) rfl (w10.heap.size+1) 0 rfl [ι g0,ι g1,ι g2,ι g3,ι g4,ι g5] _ (xy N.o) underlying81 rfl ξ ?_) | (at_builtin;refine jN _ rfl (.tmp 120) (.tmp 122) 76 rfl base 81 dx (θ #[ι 0,ι 0,ι 0,ι 0,ι 0,ι 0]) 6 48 underlying76 hi du dv dw rfl ζ _ (vm (bkF s) s.pks.length) rfl bQ.o.row wr.heap.size [ι g0,ι g1,ι g2,ι g3,ι g4,ι g5] (λx=>vf s s2 x (s.pks.length:Int)) rfl rfl (zS rfl) X9 (λ_ _=>ae.o.symm) (λb h=>h.elim) ζ (by rw[vt];omega) (Ϙ cD X8.size) ?_;intro v' dC aQ bk d;rw[dh.o] at aQ;obtain⟨cX,cE⟩:=bQ.o.grow aQ bk d;obtain⟨dA,dW,dq,rfl,cR,-⟩:=aQ.shape;rw[vt] at cR;subst cR;have dc:=κ cE;have db:Hid (base<=dC.heap.size):=κ (Ϙ cD (Ϙ X8.size bk.size));clear aQ bk d cE))
         go_meet;exact⟨dA,dq,cX,rfl,dc.o,db.o⟩
     case rest=>
     obtain⟨aG,ax,ai,rfl,aA,d⟩:=hcut;have aS:=κ aA;have bJ:=κ d;clear aA d ak aI aW aY
     go_upto_region 35 with (first | (go_at_call 19;(go_call qbF aS.o.rm aa.o.ok as e dB ⟨bf,bh,a3,a4,rfl,br⟩;have ap:=κ (aS.o.more br);have bK:Hid (base<=dB.heap.size):=κ (Ϙ bJ.o br.size);clear br)) | (refine wpList_load_mid rfl 42 (.tmp 11) rfl xb 0 rfl [ι x.act,ι x.sub,ι x.pub,ι x.layer,δ M x.b.length J,ι x.w.1,ι x.w.2,x.acc,ω x.own,ω x.stamp,φ x.seq,ω x.s0,ω x.s1,ω x.s2] _ (xy ap.o.box) underlying42 rfl ξ ?_) | (go_at_call 13;(go_call aZ.o _ _ ap.o.rm ap.o.who as e bA ⟨rfl,cV,cw,bg⟩;have aJ:=κ (ap.o.note cw cV bg);have bL:Hid (base<=bA.heap.size):=κ (Ϙ bK.o bg.size);clear cV cw bg)))
     clear aS ap bJ bK aZ;generalize MR ag x cu=jo2 at *;generalize NX sf x cu=sf2 at *;have bU:Hid (LgC w1 bA R W B sn wb xb base ai [wb,xb,sn,W,B] (δ aG s2.pks.length ax) s2 (vm (upF s s2 0 0) s2.pks.length) jo2 (EF s2) sf2 (λk=>if k<0 then zL (k:Int) 1 s2.book else zL (k:Int) 1 s.book) (λk=>((s.ln (k:Int)).W.length:Int)) #[ι x.act,ι x.sub,ι x.pub,ι x.layer,δ M x.b.length J,ι x.w.1,ι x.w.2,x.acc,ω x.own,ω x.stamp,φ x.seq,ω x.s0,ω x.s1,ω x.s2]):=κ {aJ.o with row:=by rw[KS (g':=vf s s2) (λx i _=>qbe x i τ)];exact aJ.o.row,sn:=aJ.o.sn.congr (λk _=>ώ τ)};clear aJ;go_wp2;refine qa9 Y aa bX τ bU bL _ _ _ _ _ _ _ _ _ _ _ _ _ _ _ _ _ _ _ _ _ _ _ _ _ _ _ _ _ _ _ _ _ _ _ _ _ _ _ _ _ _ _ _ _ _ _ _ _ _ _ _ _ _ _ _ _ _ _ _ _ _ _ _ _ _ _ _ _ _ _ _ _ _ _ _ _ _ _ _ _ _ _ _ _ _ _ _ _ _ _ _ _ _ _ _ _ _ _ _ _ _ _ _ _ _ _ _ _ _ _ _ _ _ _ _ _ _ _ _ _ _ _ _ _ _ _ _ _ _ _ _ _ _ _ _ _ _ _ _ _ _ _ _ _ _ _ _ _ _ _ _ _ _ _ _ _ _ _ _ _ _ _ _ _ _ _ _ _ _ _ _ _ _ _ _ _ _ _ _ _ _ _ _ _ _ _ _ _ _ _ _ _ _ _ _ _ _ _ _ _ _ _ _ _ _ _ _ _ _ _ _ _ _ _ _ _ _ _ _ _ _ _ _ _ _ _ _ _ _ _ _ _ _ _ _ _ _ _ _ _ ?_;intro gv fO fZ gm gr gs gt gu ef eg eh ei ej ek el em en eo ep eq er es et eu ev ew ex ey ez eA eB eC eD eE eF eG eH eI eJ eK eL eM eN eO eP eQ eR eS eT eU eV eW eX eY eZ fa fb fc fd fe ff fg fh fi fj fk fl fm fn fo fp fq fr ft fu fw fx fy fz fA fB fC fD fE fF fG fH fI fJ fK fL fM fN fP fQ fR fS fT fU fV fW fX fY ga gb gc gd gf gg gh gi gj gl gn go gp gq U aA d;have ar:=κ aA;have ao:=κ d;clear aA d bU bL;go_wp2;go_roundw
     case rel=>exact⟨j+1,τ,by go_num,s2,jo2,sf2,ai++[wb,xb],(λb d=>ϰ _ (ar.o.own b d).1),by have:=ar.o.rm;simpa using this,aa.o,ar.o.who,qaX ar.o.row (by simp[vt]) (λi hi k O=>by rw[kf,kf];exact(qbs k O i).symm),ar.o.sn.congr (λk O=>(ϐ O).symm),ao.o⟩
     case measure=>simp[intOf];omega
  ·obtain rfl:j=l.length:=by omega
   have ds: ¬(l.length:Int)<(l.length:Int):=by omega
   go_wp2;go_ret;exact⟨rfl,au.o.trans aL.o.more⟩
def qaL (cs:Array Value) (c:CfR) (v:Value) (l:List A22) (w:World) {J:Int} (d:w.cell? ⟨OQ,0,ϋ⟩=ϊ (ι J)) (H:Lib.TabIs prog w N9 .u64 Lib.pow10Tab) (M:Tv w cs.toList c) (I:SlP 14 uh w v l):
  Calls prog 4 #[θ cs,v] w λe w'=>e= .returned (μ ό)/\ql w w':=by
 obtain rfl:cs= #[ι c.room,ι c.hold,ι c.wait,ι c.space,ι c.retry,ι c.most]:=Array.toList_inj.1 M;cases hc:xY c with
 | false=>
  obtain⟨N,cap,rfl,_⟩:=id I;exact qaM c _ _ _ w d H hc
 | true=>
  cases hl:yk l with
  | true=>exact qaF c v l w d H hc I hl
  | false=>exact qaJ c v l w d H hc I hl
end Go.Proofs.YtlmllmonabafjaaGreatDoor
