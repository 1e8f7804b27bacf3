/- x -/
import Derived.Test.YtlmllmonabafjaaGreatDoorMg12
import Derived.Shelf.Strings.Split
import Derived.Shelf.Strings.OnBuilder
import Derived.Shelf.Strconv.Itoa3
import Derived.Shelf.LaysM
namespace Go.Proofs.YtlmllmonabafjaaGreatDoor
open Option renaming some->ϊ,none->ϋ
open Bool renaming true->ό,false->ύ
open Go.Value renaming bool->μ,slice->δ,pointer->π,agg->θ
open Go.IntKind renaming i64->ι,u8->υ,u16->φ,u32->ω,i32->χ,u64->ψ
open _root_.Go.Proofs.Tryz
set_option linter.all false
set_option maxHeartbeats 8000000
open Go.RowKit
set_option maxRecDepth 100000
variable {F:List Nat} {w G w':World} {l r:List UInt8} {pb cap B g b R:Nat} {sf:Og->Option Int} {v:Value} {P:Program} {s:RmS} {ab:Int}
def RmR.away {s':RmS} (h:RmR G w R s F) (H:RmR G w' R s' F) (t:qA F w w'):qk (λb=>G.heap.size<=b/\b∉F) w w':=by
 have m:=h.more;have d:=H.more;refine⟨d.os.trans m.os.symm,d.tape.trans m.tape.symm,d.output.trans m.output.symm,t.1,λb J I=> ?_⟩;by_cases e:b<G.heap.size
 ·rw[d.block b e,m.block b e]
 ·exact t.2 b (Q8 λc=>I ⟨τ,c⟩)
def Pl.step {s':RmS} (h:Pl G pb (ϊ s) F w) (d:w.heap[pb]? =ϊ (.cells #[γ R] 214 (0,0))) (H:RmR G w' R s' F) (t:qA F w w'):Pl G pb (ϊ s') F w'/\xl pb F w w':=
 ⟨⟨h.1,λb d=>⟨(h.2.1 b d).1,ϗ (h.2.1 b d).2 t.1⟩,H.more,R,H,t.blk h.1 d⟩,t.1,λb d _=>t.2 b d⟩
def tk0:qT 0 tp0:=Pn (c:=cfT) rfl
def tk2:qT 2 tp2:=(tk0.publish 0 7 8 9 ζ).join 0 50 5 100
def tk4:qT 4 tp4:=(tk2.subscribe 0 0 0).arrive (b:=pkU) (Byt.of_all ζ) ζ
def te1:tp0.publish 0 7 8 9=(tp1,0):=R5 rfl tq1
def te2:tp1.join 0 50 5 100=(tp2,0):=R5 rfl tq2
def te3:tp2.subscribe 0 0 0=(tp3,0):=R5 rfl tq3
def te4:tp3.arrive pkU=(tp4,0):=R5 rfl tq4
def do1 (h:Pl G pb (ϊ tp0) F w) (d:g∈F) (ai:g≠pb) (H: ∀i y,([0,7,8,9]:List Int)[i]? =ϊ y->w.cell? ⟨g,i,ϋ⟩=ϊ (ι y)):
  Calls prog 162 #[γ pb,.string ⟨#[112,117,98,108,105,115,104]⟩,δ (ϊ ⟨g,0,ϋ⟩) 4 cap] w λe w'=>e= .returned (.string ⟨#[]⟩)/\Pl G pb (ϊ tp1) F w'/\xl pb F w w':=by
 obtain⟨R,aa,N⟩:=h.room;have ac:=κ h;have I:=κ aa;have ab:=κ N;have ah:w.cell? ⟨pb,0,ϋ⟩=ϊ (π (ϊ ⟨R,0,ϋ⟩)):=qi N 0 rfl;have ad: ∀x:qC (λb=>G.heap.size<=b/\b∉F) w,x.w'.cell? ⟨g,0,ϋ⟩=ϊ (ι 0):=λx=>x.cell (h.lt g d) (λc=>c.2 d) (H 0 _ rfl)
 have ae: ∀x:qC (λb=>G.heap.size<=b/\b∉F) w,x.w'.cell? ⟨g,1,ϋ⟩=ϊ (ι 7):=λx=>x.cell (h.lt g d) (λc=>c.2 d) (H 1 _ rfl)
 have af: ∀x:qC (λb=>G.heap.size<=b/\b∉F) w,x.w'.cell? ⟨g,2,ϋ⟩=ϊ (ι 8):=λx=>x.cell (h.lt g d) (λc=>c.2 d) (H 2 _ rfl)
 have ag: ∀x:qC (λb=>G.heap.size<=b/\b∉F) w,x.w'.cell? ⟨g,3,ϋ⟩=ϊ (ι 9):=λx=>x.cell (h.lt g d) (λc=>c.2 d) (H 3 _ rfl)
 clear h aa N H
 go_enter func162,ntmps162
 go_upto_region 8 with fail
 refine QN (λb=>G.heap.size<=b/\b∉F) w 19 19 [17] ?_
 refine R6 ?_
 (refine Ql ?_;intro K O)
 go_call Ru (I.o.on (qh.drewN w 1)) rfl 0 7 8 9 te1 as e w5 ⟨rfl,J,t5⟩;have U:Hid (qk (λb=>G.heap.size<=b/\b∉F) w w5):=κ (((qk.refl _ w).drewN 1).trans ((I.o.on (qh.drewN w 1)).away J t5));refine⟨_,rfl,qn U.o,O _ _ ?_⟩;clear O K
 iterate 1 (refine qz rfl rfl (qn U.o) ?_;intro K O;go_big_quiet_op;go_big_quiet_on)
 refine qD ?_;have Y:=κ (ac.o.step ab.o J (qA.trans (I.o.stay (qh.drewN w 1)) t5));clear J t5;go_wp2;go_ret;exact⟨rfl,Y.o.1,Y.o.2⟩
def do2 (h:Pl G pb (ϊ tp1) F w) (d:g∈F) (ai:g≠pb) (H: ∀i y,([0,50,5,100]:List Int)[i]? =ϊ y->w.cell? ⟨g,i,ϋ⟩=ϊ (ι y)):
  Calls prog 162 #[γ pb,.string ⟨#[106,111,105,110]⟩,δ (ϊ ⟨g,0,ϋ⟩) 4 cap] w λe w'=>e= .returned (.string ⟨#[]⟩)/\Pl G pb (ϊ tp2) F w'/\xl pb F w w':=by
 obtain⟨R,aa,N⟩:=h.room;have ac:=κ h;have I:=κ aa;have ab:=κ N;have ah:w.cell? ⟨pb,0,ϋ⟩=ϊ (π (ϊ ⟨R,0,ϋ⟩)):=qi N 0 rfl;have ad: ∀x:qC (λb=>G.heap.size<=b/\b∉F) w,x.w'.cell? ⟨g,0,ϋ⟩=ϊ (ι 0):=λx=>x.cell (h.lt g d) (λc=>c.2 d) (H 0 _ rfl)
 have ae: ∀x:qC (λb=>G.heap.size<=b/\b∉F) w,x.w'.cell? ⟨g,1,ϋ⟩=ϊ (ι 50):=λx=>x.cell (h.lt g d) (λc=>c.2 d) (H 1 _ rfl)
 have af: ∀x:qC (λb=>G.heap.size<=b/\b∉F) w,x.w'.cell? ⟨g,2,ϋ⟩=ϊ (ι 5):=λx=>x.cell (h.lt g d) (λc=>c.2 d) (H 2 _ rfl)
 have ag: ∀x:qC (λb=>G.heap.size<=b/\b∉F) w,x.w'.cell? ⟨g,3,ϋ⟩=ϊ (ι 100):=λx=>x.cell (h.lt g d) (λc=>c.2 d) (H 3 _ rfl)
 clear h aa N H
 go_enter func162,ntmps162
 go_upto_region 10 with fail
 refine QN (λb=>G.heap.size<=b/\b∉F) w 18 18 [16] ?_
 refine R7 ?_
 (refine Ql ?_;intro K O)
 go_call OA (I.o.on (qh.drewN w 1)) rfl 0 50 5 100 ⟨ζ,ζ⟩ ⟨ζ,ζ⟩ te2 as e w5 ⟨rfl,J,t5⟩;have U:Hid (qk (λb=>G.heap.size<=b/\b∉F) w w5):=κ (((qk.refl _ w).drewN 1).trans ((I.o.on (qh.drewN w 1)).away J t5));refine⟨_,rfl,qn U.o,O _ _ ?_⟩;clear O K
 iterate 1 (refine qz rfl rfl (qn U.o) ?_;intro K O;go_big_quiet_op;go_big_quiet_on)
 refine qD ?_;have Y:=κ (ac.o.step ab.o J (qA.trans (I.o.stay (qh.drewN w 1)) t5));clear J t5;go_wp2;go_ret;exact⟨rfl,Y.o.1,Y.o.2⟩
def do3 {d:World} (h:Pl d pb (ϊ tp2) F w) (G:g∈F) (ah:g≠pb) (H: ∀i y,([0,0,0]:List Int)[i]? =ϊ y->w.cell? ⟨g,i,ϋ⟩=ϊ (ι y)):
  Calls prog 162 #[γ pb,.string ⟨#[116,97,107,101]⟩,δ (ϊ ⟨g,0,ϋ⟩) 3 cap] w λe w'=>e= .returned (.string ⟨#[]⟩)/\Pl d pb (ϊ tp3) F w'/\xl pb F w w':=by
 obtain⟨R,aa,N⟩:=h.room;have ac:=κ h;have I:=κ aa;have ab:=κ N;have ag:w.cell? ⟨pb,0,ϋ⟩=ϊ (π (ϊ ⟨R,0,ϋ⟩)):=qi N 0 rfl;have ad: ∀x:qC (λb=>d.heap.size<=b/\b∉F) w,x.w'.cell? ⟨g,0,ϋ⟩=ϊ (ι 0):=λx=>x.cell (h.lt g G) (λc=>c.2 G) (H 0 _ rfl)
 have ae: ∀x:qC (λb=>d.heap.size<=b/\b∉F) w,x.w'.cell? ⟨g,1,ϋ⟩=ϊ (ι 0):=λx=>x.cell (h.lt g G) (λc=>c.2 G) (H 1 _ rfl)
 have af: ∀x:qC (λb=>d.heap.size<=b/\b∉F) w,x.w'.cell? ⟨g,2,ϋ⟩=ϊ (ι 0):=λx=>x.cell (h.lt g G) (λc=>c.2 G) (H 2 _ rfl)
 clear h aa N H
 go_enter func162,ntmps162
 go_upto_region 12 with fail
 refine QN (λb=>d.heap.size<=b/\b∉F) w 12 12 [10] ?_
 refine He ?_
 (refine Ql ?_;intro K O)
 go_call Oh (I.o.on (qh.drewN w 1)) tk2 ζ 0 0 0 te3 as e w5 ⟨rfl,J,t5⟩;have U:Hid (qk (λb=>d.heap.size<=b/\b∉F) w w5):=κ (((qk.refl _ w).drewN 1).trans ((I.o.on (qh.drewN w 1)).away J t5));refine⟨_,rfl,qn U.o,O _ _ ?_⟩;clear O K
 iterate 1 (refine qz rfl rfl (qn U.o) ?_;intro K O;go_big_quiet_op;go_big_quiet_on)
 refine qD ?_;have Y:=κ (ac.o.step ab.o J (qA.trans (I.o.stay (qh.drewN w 1)) t5));clear J t5;go_wp2;go_ret;exact⟨rfl,Y.o.1,Y.o.2⟩
def Ow (w:World):Calls prog 9 #[θ #[ι 2,ι 2,ι 1,ι 1,ι 2,ι 1]] w λe w'=> ∃R,e= .returned (.tuple #[γ R,ι 0])/\RmR w w' R tp0 []/\qh w w':=Bv cfT rfl w
def IJ {Y:World} (h:Pl Y pb ϋ F w) (af:g∈F) (ao:g≠pb) (I: ∀i y,([2,2,1,1,2,1]:List Int)[i]? =ϊ y->w.cell? ⟨g,i,ϋ⟩=ϊ (ι y)):
  Calls prog 215 #[γ pb,δ (ϊ ⟨g,0,ϋ⟩) 6 cap] w λe w'=>e= .returned (ι 0)/\Pl Y pb (ϊ tp0) F w'/\xl pb F w w':=by
 have ac:w.heap[pb]? =ϊ (.cells #[π ϋ] 214 (0,0)):=h.2.2.2;have G:=κ h;have ae:=κ ac;have J:=h.lt g af;have ah: ∀x:qu w,x.w'.cell? ⟨g,0,ϋ⟩=ϊ (ι 2):=λx=>by rw[x.h.cells _ _ J];exact I 0 _ rfl
 have ai: ∀x:qu w,x.w'.cell? ⟨g,1,ϋ⟩=ϊ (ι 2):=λx=>by rw[x.h.cells _ _ J];exact I 1 _ rfl
 have aj: ∀x:qu w,x.w'.cell? ⟨g,2,ϋ⟩=ϊ (ι 1):=λx=>by rw[x.h.cells _ _ J];exact I 2 _ rfl
 have ak: ∀x:qu w,x.w'.cell? ⟨g,3,ϋ⟩=ϊ (ι 1):=λx=>by rw[x.h.cells _ _ J];exact I 3 _ rfl
 have al: ∀x:qu w,x.w'.cell? ⟨g,4,ϋ⟩=ϊ (ι 2):=λx=>by rw[x.h.cells _ _ J];exact I 4 _ rfl
 have am: ∀x:qu w,x.w'.cell? ⟨g,5,ϋ⟩=ϊ (ι 1):=λx=>by rw[x.h.cells _ _ J];exact I 5 _ rfl
 clear h ac I
 go_enter func215,ntmps215
 go_upto_region 1 with fail
 refine Qn w 26 26 [20] ?_
 refine Sa ?_
 (refine Ql ?_;intro K O)
 go_call Ow _ as e w5 ⟨R,rfl,ab,ad⟩;have H:Hid (qh w w5):=κ (((qh.refl w).dr 1).trans ad);refine⟨_,rfl,qo H.o,O _ _ ?_⟩;clear O K
 iterate 5 (refine qz rfl rfl (qo H.o) ?_;intro K O;go_big_quiet_op;go_big_quiet_on)
 refine qD ?_;have aa:Hid (RmR Y w5 R tp0 F):=κ ((ab.based (Fn:=F) (G.o.2.2.1.dr 1) (λb d=>G.o.2.1 b d)).sub (λb d=>ο _ d));have N:=κ (qj H.o ae.o);have ap:=β0 N.o;have an:=ql N.o 0;clear ab ad;go_wp2;go_ret;have a:qk (λb=>b∈[pb]) w5 (w5.setCell ⟨pb,0,ϋ⟩ (γ R)):=(qk.refl _ _).set η _;have U:=G.o.1;refine⟨rfl,⟨U,λb d=>⟨(G.o.2.1 b d).1,ϗ (G.o.2.1 b d).2 (ϙ H.o.size a.size)⟩,a.to_more aa.o.more (λb d=>by simp at d;subst d;exact(G.o.2.1 _ U).1),R,aa.o.mut (a.mono λb d=>by simp at d;subst d;exact U), ?_⟩,ϙ H.o.size a.size,λb d ag=> ?_⟩
 ·have e:=N.o;simp[World.setCell,G5,e]
 ·rw[a.block b (by have:=G.o.lt b d;have:=H.o.size;omega) (λe=>by simp at e;exact ag e),H.o.block b (G.o.lt b d)]
def do0 {I:World} (h:Pl I pb ϋ F w) (U:g∈F) (Y:g≠pb) (H: ∀i y,([2,2,1,1,2,1]:List Int)[i]? =ϊ y->w.cell? ⟨g,i,ϋ⟩=ϊ (ι y)):
  Calls prog 162 #[γ pb,.string ⟨#[114,111,111,109]⟩,δ (ϊ ⟨g,0,ϋ⟩) 6 cap] w λe w'=>e= .returned (.string ⟨#[]⟩)/\Pl I pb (ϊ tp0) F w'/\xl pb F w w':=by
 have G:w.heap[pb]? =ϊ (.cells #[π ϋ] 214 (0,0)):=h.2.2.2;have aa:w.cell? ⟨pb,0,ϋ⟩=ϊ (π ϋ):=qi G 0 rfl;have N:=κ (IJ (cap:=cap) h U Y H);clear h G H
 go_enter func162,ntmps162
 go_wp2_with ((go_at_call 215;(go_call N.o as e w5 ⟨rfl,d,t5⟩;have J:=κ d;have O:=κ t5;clear d t5)))
 go_ret;exact⟨rfl,J.o,O.o⟩
def Rs:ud pkT:=⟨ζ,ζ,ζ,ζ,λi=>by simp[U32,pkT],ζ,xB,Byt.of_all ζ⟩
def tkR:jD pkT=ό:=by decide
def Nk (w:World) (v:Value) (I:SlI .u8 w v [16,0]):Calls prog 37 #[θ #[μ ύ,υ 96,φ 1,ω 9,ω 7,(),ύ,φ 0,(),v]] w λe w'=>(∃v,e= .returned (.tuple #[v,ι 0])/\SlI .u8 w' v pkU)/\qh w w':=
 (Qb pkT _ _ _ _ ⟨SlI.nil _ _,SlI.nil _ _,I⟩ Rs tkR).mono λe w' ⟨⟨v,G,d⟩,H⟩=>⟨⟨v,G,by rw[tpB] at d;exact SlI.of_owns d ζ⟩,H⟩
def Io (U:g<w.heap.size) (I: ∀i y,([7,1,9]:List Int)[i]? =ϊ y->w.cell? ⟨g,i,ϋ⟩=ϊ (ι y)) (Y:SlI .u8 w v [16,0]):
  Calls prog 216 #[δ (ϊ ⟨g,0,ϋ⟩) 3 cap,v] w λe w'=>(∃v',e= .returned v'/\SlI .u8 w' v' pkU)/\qh w w':=by
 have ac: ∀x:qu w,x.w'.cell? ⟨g,0,ϋ⟩=ϊ (ι 7):=λx=>by rw[x.h.cells _ _ U];exact I 0 _ rfl
 have ad: ∀x:qu w,x.w'.cell? ⟨g,1,ϋ⟩=ϊ (ι 1):=λx=>by rw[x.h.cells _ _ U];exact I 1 _ rfl
 have ae: ∀x:qu w,x.w'.cell? ⟨g,2,ϋ⟩=ϊ (ι 9):=λx=>by rw[x.h.cells _ _ U];exact I 2 _ rfl
 have ag:=κ Y;obtain⟨am,ak,rfl,_⟩:=id Y;clear I Y
 go_enter func216,ntmps216
 go_upto_region 1 with fail
 refine Qn w 14 15 [13,14] ?_
 refine Sc ?_
 (refine Ql ?_;intro K G)
 have J:Hid (((w.drewN 1).alloc (.cells #[μ ύ,υ 0,φ 0,ω 0,ω 0] 60)).heap[w.heap.size]? =ϊ (.cells #[μ ύ,υ 0,φ 0,ω 0,ω 0] 60 (0,0))):=κ (qp (w.drewN 1) _);have N:Hid (qh w ((w.drewN 1).alloc (.cells #[μ ύ,υ 0,φ 0,ω 0,ω 0] 60))):=κ (((qh.refl w).dr 1).al _);refine⟨qo N.o,G _ _ ?_⟩;clear G K ac ad ae;refine jY rfl rfl ?_;intro K G;refine xo 60 (.tmp 5) (.tmp 20) rfl w.heap.size 60 _ #[μ ύ,υ 96,φ 1,ω 9,ω 7] J.o rfl rfl ξ rfl Z5 ?_;have H:=κ (N.o.row (ϕ _) #[μ ύ,υ 96,φ 1,ω 9,ω 7]);have d:=κ (jG J.o #[μ ύ,υ 96,φ 1,ω 9,ω 7]);refine⟨qo H.o,G _ _ ?_⟩;clear G K;refine qD ?_;obtain⟨aj,O⟩:=ν (((w.drewN 1).alloc (.cells #[μ ύ,υ 0,φ 0,ω 0,ω 0] 60)).setRow w.heap.size #[μ ύ,υ 96,φ 1,ω 9,ω 7]);rw[O] at H d
 (try rw[O])
 clear O J N;have an:=β0 d.o;have ao:=β1 d.o;have ap:=β2 d.o;have aq:=β3 d.o;have ar:=β4 d.o;have af:=κ (Nk aj (δ am 2 ak) (ag.o.keep H.o))
 go_wp2_with ((go_at_call 37;(go_call af.o as e w5 ⟨⟨v5,rfl,ab⟩,aa⟩;have ai:=κ ab;have ah:=κ (H.o.trans aa);clear ab aa)))
 go_ret;exact⟨⟨_,rfl,ai.o⟩,ah.o⟩
def do4 {ad:World} (h:Pl ad pb (ϊ tp3) F w) (ak:g∈F) (an:g≠pb) (U: ∀i y,([7,1,9]:List Int)[i]? =ϊ y->w.cell? ⟨g,i,ϋ⟩=ϊ (ι y)):
  Calls prog 162 #[γ pb,.string ⟨#[107,101,121]⟩,δ (ϊ ⟨g,0,ϋ⟩) 3 cap] w λe w'=>e= .returned (.string ⟨#[]⟩)/\Pl ad pb (ϊ tp4) F w'/\xl pb F w w':=by
 obtain⟨R,O,G⟩:=h.room;have am:w.cell? ⟨pb,0,ϋ⟩=ϊ (π (ϊ ⟨R,0,ϋ⟩)):=qi G 0 rfl;have ah:=κ h;have H:=κ O;have af:=κ G;have Y:=h.lt g ak;have d:=κ (qh.alloc w (.cells #[υ 16,υ 0] 5));have aj:=κ (SlI.lit .u8 w [16,0] 5 #[υ 16,υ 0] 2 w.heap.size rfl rfl rfl η);have ag:=κ (Io (cap:=cap) (ϗ Y d.o.size) (λi y al=>by rw[d.o.cells _ _ Y];exact U i y al) aj.o);clear h O G U
 go_enter func162,ntmps162
 go_wp2_with (first | (go_at_call 216;(go_call ag.o as e w5 ⟨⟨v5,rfl,ab⟩,aa⟩;have ai:=κ ab;have J:=κ (d.o.trans aa);have ae:=κ (H.o.on J.o);clear ab aa)) | (go_at_call 33;(go_call NP ae.o pkU v5 ai.o (Byt.of_all ζ) ζ (by decide+kernel) te4 as e w6 ⟨rfl,N,ac⟩;have I:=κ (ah.o.step af.o N ((H.o.stay J.o).trans ac));clear N ac)))
 go_ret;exact⟨rfl,I.o.1,I.o.2⟩
section
open Go.Shelf Go.RowKit
def Up:Go.Shelf.Ren:=⟨fun | 146=>98 | 221=>156 | 268=>209 | 138=>210 | 143=>211 | 195=>261 | 197=>262 | 218=>263 | 219=>264 | 260=>290 | 217=>291 | 225=>292 | 224=>293 | 267=>294 | 266=>319 | 314=>320 | n=>n,fun | 9=>9 | 31=>215 | 3=>3 | 4=>4 | 0=>0 | 105=>435 | 21=>21 | 5=>5 | 46=>335 | 119=>486 | 139=>489 | 138=>488 | 146=>490 | 51=>38 | n=>n,fun | 1=>0 | 3=>1 | 4=>2 | n=>n⟩
def lays146:Go.Proofs.LaysM.n146 prog Up:=by
 constructor
 all_goals first | kernel_rfl | (intro w;rfl) | (constructor<;>first | kernel_rfl | (intro w;rfl)) | exact λw h=>Go.Proofs.cell_of_shapedOpen_int (zero:= #[ι 0]) (t:=3) h (Ϛ ξ) ξ rfl ξ ξ underlying3
def JW:Go.Shelf.Ren:=⟨fun | 156=>299 | 165=>325 | 166=>100 | 169=>103 | 240=>157 | 241=>335 | 276=>212 | 277=>336 | n=>n,fun | 31=>215 | 9=>9 | 3=>3 | 4=>4 | 0=>0 | 20=>20 | 72=>212 | 76=>220 | 70=>210 | 37=>35 | 75=>219 | 127=>321 | 164=>392 | 5=>5 | 80=>224 | n=>n,fun | n=>n⟩
def XA:Go.Proofs.Lays.n156 prog JW:=by
 constructor
 all_goals first | kernel_rfl | (intro w;rfl)
def Uo:Go.Shelf.Ren:=⟨fun | 171=>159 | 243=>213 | 246=>265 | 283=>295 | 284=>296 | 285=>297 | 286=>298 | 129=>230 | 317=>321 | 318=>322 | 319=>323 | 320=>324 | 337=>333 | 338=>334 | n=>n,fun | 3=>3 | 9=>9 | 2=>2 | 4=>4 | 171=>463 | 0=>0 | 53=>231 | 37=>35 | 5=>5 | 173=>465 | 212=>493 | 51=>38 | 20=>20 | 213=>494 | 46=>335 | 232=>503 | 233=>504 | n=>n,fun | 17=>3 | 18=>4 | 19=>5 | n=>n⟩
def Iu:Go.Proofs.LaysM.n171 prog Uo:=by
 constructor
 all_goals first | kernel_rfl | (intro w;rfl) | (constructor<;>first | kernel_rfl | (intro w;rfl))
def ZT:Nat:=0
def uG:String:=(Rows.topEndsRow.laid.map Prod.fst).getD 2 default
def bldX:Builder.Extra prog JW:={sizeBuilder:=by kernel_rfl,liesBuilder:=by kernel_rfl,t5:=underlying5,a5:=isAgg5,z5:=sizeOf5,v5:=zeroValue5,infoByte:=by kernel_rfl,cellsByte:=by kernel_rfl,sizeByte:=by kernel_rfl,neB5:=by decide}
def Co (s d:ByteArray) {G:Int} (w:World) (J:s.size<4294967281) (I:w.cell? ⟨ZT,0,ϋ⟩=ϊ (ι G)) (H:1<=d.size):
  Calls prog 98 #[.string s,.string d] w λe w'=>e= .returned (δ (ϊ ⟨w.heap.size,0,ϋ⟩) (Lib.countB s d+1) (Lib.countB s d+1))/\w'=w.alloc (.cells ((Lib.splitB d 0 (Lib.countB s d) s).map Value.string).toArray 9):=
 Any.strings_Split {lays146 with} ξ s d G w J I H
def DP (w:World) (k:Nat) (os:Array Obj):qh w (Go.Sort.grow (w.drewN k) os):=⟨rfl,rfl,rfl,by simp[Go.Sort.grow,World.drewN],λb d=>by show (w.heap++os)[b]? =_;exact Array.getElem?_append_left d⟩
def LS (n:Int) (h:0<=n/\n<=1000000000000) (w:World) (d:Lib.TabIs prog w uG .u64 Lib.pow10Tab):
  Calls prog 159 #[ι n] w λe w'=>e= .returned (.string ⟨(Lib.itoa n).toArray⟩)/\qh w w':=by
 refine(Any.strconv_Itoa Iu n τ τ w d).mono ?_;rintro e w' ⟨rfl,k,os,rfl⟩;exact⟨rfl,DP w k os⟩
def LQ (d o c:Nat) (xs:List ByteArray) (G:ByteArray) (w:World) (J: ∀(j:Nat) x,xs[j]? =ϊ x->w.cell? ⟨d,o+j,ϋ⟩=ϊ (.string x)) (I:d<w.heap.size) (U:xs.length<=1000) (N:xs.length<=c) (H:Lib.join (xs.map (·.data.toList)) G.data.toList=r) (O:r.length<=1000):
  Calls prog 299 #[δ (ϊ ⟨d,o,ϋ⟩) xs.length c,.string G] w λe w'=>e= .returned (.string ⟨r.toArray⟩)/\qh w w':=by
 have h:=Any.strings_Join {XA with} bldX d o c xs G w J I τ N (by rw[H];omega);rw[H] at h;exact h
def IZ (B b:Nat) (l:List UInt8) (w:World) (h:Lib.IsBuilder 212 5 B b (Lib.byteCells l) w) (d:B<=w.heap.size):
  Calls prog 103 #[γ b] w λe w'=>e= .returned (.string ⟨l.toArray⟩)/\Below B w w':=
 Any.Builder_String_any {XA with} bldX B b l w h d
end
def vO (h:Lib.TabIs prog w uG .u64 Lib.pow10Tab) (m:qh w w'):Lib.TabIs prog w' uG .u64 Lib.pow10Tab:=Joins.tab_stays (g:=3) ξ h m (ϕ _)
def itB (n:Int):ByteArray:=⟨(Lib.itoa n).toArray⟩
def jd.tx {base:Nat} {D:Nat->Prop} {L:List ByteArray} (h:jd 1 RTx D w base 9 v L) (ab:0<L.length): ∃g cap,v= δ (ϊ ⟨g,0,ϋ⟩) L.length cap/\L.length<=cap/\g<w.heap.size/\ ∀(j:Nat) x,L[j]? =ϊ x->w.cell? ⟨g,0+j,ϋ⟩=ϊ (.string x):=by
 have N:=h.sl ζ;obtain⟨⟨xs,U,r⟩,_⟩:=h;rcases id U.2 with ⟨rfl,Y⟩ | ⟨g,cap,cur,rfl,aa,I,H,ac,_⟩
 ·omega
 ·refine⟨g,cap,rfl,H,lt_of_block I,λj x O=> ?_⟩;obtain⟨J,e⟩:=ϟ.1 O;obtain⟨b,ad,d,G⟩:=N.strs (qh.refl _) j J;injection d with d
  injection d with e3 e4 _
  subst e3 e4;rw[G,e]
def WE (af:ByteArray) (d:List Int) (g cap:Nat) (w:World) (aj: ∀i y,d[i]? =ϊ y->w.cell? ⟨g,i,ϋ⟩=ϊ (ι y)) (O:g<w.heap.size) (aF:0<d.length) (aP:d.length<=20) (J: ∀n∈d,0<=n/\n<=1000000000000) (an:Lib.TabIs prog w uG .u64 Lib.pow10Tab)
  (am:Lib.join (d.map Lib.itoa) af.data.toList=r) (aE:r.length<=1000):
  Calls prog 268 #[.string af,δ (ϊ ⟨g,0,ϋ⟩) d.length cap] w λe w'=>e= .returned (.string ⟨r.toArray⟩)/\qh w w':=by
 obtain⟨aL,hi,aG,aH,aI⟩:=info_parts (P:=prog) (e:=9) (z:= .string ByteArray.empty) (size:=1) (bytes:=16) ξ;have aw:=κ (λw' (m:qh w w')=>vO an m);have ao:Hid (∀wr,qh w wr-> ∀i (hi:i<d.length),wr.cell? ⟨g,i,ϋ⟩=ϊ (ι d[i])):=κ (λwr m i hi=>by rw[m.cells _ _ O];exact aj i _ (ϖ hi));have au:Hid (∀i (hi:i<d.length),0<=d[i]/\d[i]<=1000000000000):=κ (λi hi=>J _ (Ϣ hi));have ar:=κ am;clear aj J an am
 go_enter func268,ntmps268
 go_wp2
 go_loopw [5,10] (λu ac wr=> ∃i:Nat,i<=d.length/\ac= ι i/\(∃ae ad Y,u= δ ae ad Y)/\jd 1 RTx (λ_=>False) wr w.heap.size 9 u ((d.take i).map itB)/\qh w wr) (λ_ ac _=>d.length-(intOf ac).toNat)
 case atStart=>exact⟨0,τ,rfl,⟨_,_,_,rfl⟩,jd.nil _ _ _ _ _ _,qh.refl _⟩
 case round=>
  obtain⟨i,aQ,rfl,⟨ae,ad,Y,rfl⟩,J,ak⟩:=hrel;have U:=κ J;have N:=κ ak;clear J ak;by_cases hlt:i<d.length
  ·have aD:(i:Int)<(d.length:Int):=by omega
   have aN:=ao.o wr N.o i hlt;have aq:=κ (LS d[i] (au.o i hlt) wr (aw.o wr N.o));have ax:Hid ((d.take (i+1)).map itB=(d.take i).map itB++[itB d[i]]):=κ (by rw[ϵ hlt,Ξ];rfl);have aR:((d.take i).map itB).length<=20:=by rw[C3,ϛ];omega
   generalize d[i]=y at *;generalize (d.take i).map itB=fl at *;have ap:Hid (∀b,(δ ae ad Y).ownBlock=ϊ b->w.heap.size<=b):=κ (λb h=>U.o.ge h)
   go_wp2_with (first | (go_at_call 159;(go_call aq.o as e w5 ⟨rfl,H⟩;have I:=κ (N.o.trans H);have ay:=κ ((U.o.on H).on (qh.alloc w5 (.cells #[.string (itB y)] 9)));clear H)) | (at_builtin;(refine jr (R:=RTx) (D:=λ_=>False) _ rfl (.tmp 14) (.tmp 17) 215 rfl w.heap.size 9 aL (.string ByteArray.empty) 1 16 underlying215 hi aG aH aI rfl ζ _ fl rfl ay.o w5.heap.size [.string (itB y)] (itB y) rfl rfl (ze (by simp[itB])) Z5 (λw' _=>rfl) (λb h=>h.elim) ζ τ (I.o.al _).size ?_;intro v' w8 G O aC;have aM:Hid (qh w w8):=κ (Below.grown (I.o.al _) O (I.o.al _).size ap.o);obtain⟨aT,aS,aO,rfl,aJ,aK⟩:=G.shape;have az:=κ G;clear G O aC aJ aK)))
   go_roundw
   case rel=>exact⟨i+1,τ,by go_num,⟨_,_,_,rfl⟩,by rw[ax.o];exact az.o,aM.o⟩
   case measure=>simp[intOf];omega
  ·obtain rfl:i=d.length:=by omega
   have aD: ¬(d.length:Int)<(d.length:Int):=by omega
   have G:=U.o;rw[ϭ] at G;obtain⟨aB,aA,aa,ag,ah,ai⟩:=G.tx (by rw[C3];exact aF);have ab:=LQ aB 0 aA (d.map itB) af wr ai ah (by rw[C3];omega) ag (r:=r) (by rw[<-ar.o,S5];rfl) aE;rw[C3] at ab aa;have av:=κ ab;clear ab;rw[aa];clear G aa ag ah ai
   go_wp2_with ((go_at_call 299;(go_call av.o as e w5 ⟨rfl,H⟩;have I:=κ (N.o.trans H);clear H)))
   go_ret;exact⟨rfl,I.o⟩
def Fj (x:ByteArray) (g cap:Nat) (w:World) (d:w.cell? ⟨g,0,ϋ⟩=ϊ (.string x)) (U:g<w.heap.size) (O:1<=cap) (Y:x.data.toList.length<=1000):
  Calls prog 300 #[δ (ϊ ⟨g,0,ϋ⟩) 1 cap] w λe w'=>e= .returned (.string x)/\qh w w':=by
 have G:(⟨x.data.toList.toArray⟩:ByteArray)=x:=by simp
 have J:Hid (Calls prog 299 #[δ (ϊ ⟨g,0,ϋ⟩) 1 cap,.string ⟨#[32]⟩] w λe w'=>e= .returned (.string x)/\qh w w'):=κ (by
  have h:=LQ g 0 cap [x] ⟨#[32]⟩ w (λj y H=>by
   have:j=0:=by
    have:=(ϟ.1 H).1;simp at this;exact this
   subst this;have:x=y:=by simpa using H
   subst this
   exact d) U η O (r:=x.data.toList) (Lib.join_one _ _) Y
  rw[G] at h
  exact h)
 clear d G
 go_enter func300,ntmps300
 go_wp2_with ((go_at_call 299;(go_call J.o as e w5 ⟨rfl,I⟩;have N:=κ I;clear I)))
 go_ret;exact⟨rfl,N.o⟩
def Ka (j:Nat) (h:j<5):tpP (j+1)=((tpP j).pick (wkT.getD j (0,0)) ό).1:=by
 match j,h with
 | 0,_=>rfl
 | 1,_=>rfl
 | 2,_=>rfl
 | 3,_=>rfl
 | 4,_=>rfl
def CG {j:Nat} (h:j<5):(tpP j).pick ((wkT.getD j (0,0)).1,(wkT.getD j (0,0)).2) ό=(tpP (j+1),ό):=by
 refine R5 (Ka j h).symm ?_;have:=tq6 j h;unfold RmS.pick;rw[ϒ this]
def tkP (j:Nat) (d:j<=5):qT (4+j) (tpP j):=by
 induction j with
 | zero=>exact tk4
 | succ j ih=>
  rw[Ka j τ];exact(ih τ).pick _ _
def Mh {H:World} (h:Pl H pb (ϊ tp4) F w):
  Calls prog 267 #[γ pb,ι 1] w λe w'=>e= .returned (ι 5)/\Pl H pb (ϊ tp5) F w'/\xl pb F w w':=by
 have J:=κ h;clear h
 go_enter func267,ntmps267
 go_wp2
 go_loopw [5,9] (λu I wr=>(I= ι 0/\u= ι 0/\w=wr)∨(I= ι 1/\u= ι 5/\Pl H pb (ϊ tp5) F wr/\xl pb F w wr)) (λ_ I _=>1-(intOf I).toNat)
 case atStart=>exact ϐ ⟨rfl,rfl,rfl⟩
 case round=>
  rcases hrel with ⟨rfl,rfl,rfl⟩ | ⟨rfl,rfl,N,t5⟩
  ·obtain⟨R,ay,av⟩:=J.o.room;have Y:w.cell? ⟨pb,0,ϋ⟩=ϊ (π (ϊ ⟨R,0,ϋ⟩)):=qi av 0 rfl;have ag:=κ (Yk ay);rw[tq5] at ag;clear ay av
   go_wp2_with ((go_at_call 26;(go_call ag.o as e w8 ⟨aV,rfl,al,aD⟩;obtain⟨aU,cap,rfl,aC⟩:=Gv al;have ah:=κ aC;have ai:=κ al;have ar:=κ aD;clear al aC aD)))
   obtain⟨d,rfl,_,_⟩:=ah.o.2 _ (qh.refl _) 0 ζ;have aA:w.heap.size<=d:=ai.o.ge rfl;have aT:d<w8.heap.size:=ai.o.lt rfl
   have ap:Hid (∀j (ac:j<5),w8.cell? ⟨d,j* 2,ϋ⟩=ϊ (ι (wkT.getD j (0,0)).1)/\w8.cell? ⟨d,j* 2+1,ϋ⟩=ϊ (ι (wkT.getD j (0,0)).2)):=κ (λj ac=>by
    obtain⟨b,e,aP,aQ⟩:=ah.o.2 _ (qh.refl _) j ac;injection e with e
    injection e with e _ _
    subst e;have e:wkT.getD j (0,0)=wkT[j]:=by rw[ϑ,ϖ ac];rfl
    rw[e]
    exact⟨aP,aQ⟩)
   have an:Hid (Pl H pb (ϊ tp4) ([d]++F) w8):=κ (J.o.adds ar.o (λb G=>by simp at G;subst G;exact⟨aA,aT⟩));have aR:Hid (d≠pb):=κ (λe=>by have:=J.o.lt pb J.o.1;omega);have aN:=κ (J.o.stay ar.o);clear aA ah ai ag Y
   go_loopw [5,17] (λu I aF=> ∃j:Nat,j<=5/\I= ι j/\u= ι j/\Pl H pb (ϊ (tpP j)) ([d]++F) aF/\xl pb ([d]++F) w8 aF) (λ_ I _=>5-(intOf I).toNat)
   case atStart=>exact⟨0,τ,rfl,rfl,an.o,xl.refl⟩
   case round=>
    obtain⟨j,ac,rfl,rfl,aB,aE⟩:=hrel;have aa:=κ aB;have aj:=κ aE;clear aB aE an;by_cases hlt:j<5
    ·have aS:(j:Int)<5:=by omega
     have am:=aj.o.2 d η aR.o;obtain⟨Y,c1⟩:=ap.o j hlt;rw[<-World.cell?_of_block am] at Y c1;have aq:=κ (CG hlt);have aK:=κ (tkP j τ);have aJ:Hid (4+j<=1000):=κ τ;generalize wkT.getD j (0,0)=y at *;obtain⟨ad,ae⟩:=y;simp only at Y c1 aq;obtain⟨W1,ak⟩:=ν (wr.alloc (.cells #[ι ad,ι ae] 37));have au:Hid (qh wr W1):=κ (by rw[<-ak];exact qh.alloc _ _);have O:Hid (W1.heap[wr.heap.size]? =ϊ (.cells #[ι ad,ι ae] 37 (0,0))):=κ (by rw[<-ak];exact qp wr _);have U:Hid (Pl H pb (ϊ (tpP j)) ([wr.heap.size]++([d]++F)) W1):=κ (aa.o.adds au.o (λb G=>by simp at G;subst G;exact⟨ϕ _,qq O.o⟩));obtain⟨aM,az,aw⟩:=U.o.room;have af:=κ az;have ao:=κ aw;have aL: ∀x:qC (λb=>H.heap.size<=b/\b∉[wr.heap.size]++([d]++F)) W1,x.w'.cell? ⟨pb,0,ϋ⟩=ϊ (π (ϊ ⟨aM,0,ϋ⟩)):=λx=>x.cell (U.o.lt pb U.o.1) (λc=>c.2 U.o.1) (qi ao.o 0 rfl)
     have aH: ∀x:qC (λb=>H.heap.size<=b/\b∉[wr.heap.size]++([d]++F)) W1,x.w'.cell? ⟨wr.heap.size,0,ϋ⟩=ϊ (ι ad):=λx=>x.cell (qq O.o) (λc=>c.2 η) (qi O.o 0 rfl)
     have aI: ∀x:qC (λb=>H.heap.size<=b/\b∉[wr.heap.size]++([d]++F)) W1,x.w'.cell? ⟨wr.heap.size,1,ϋ⟩=ϊ (ι ae):=λx=>x.cell (qq O.o) (λc=>c.2 η) (qi O.o 1 rfl)
     clear az aw am ap
     go_upto_region 7 with fail
     clear ak Y c1;refine QN (λb=>H.heap.size<=b/\b∉[wr.heap.size]++([d]++F)) W1 6 6 [5] ?_
     refine Qs5 ?_
     clear aL aH aI
     (refine Ql ?_;intro K ax)
     go_call LC (af.o.on (qh.drewN W1 1)) aK.o (RI aJ.o) ad ae ό aq.o as e w5 ⟨rfl,N,t5⟩;have aG:Hid (qk (λb=>H.heap.size<=b/\b∉[wr.heap.size]++([d]++F)) W1 w5):=κ (((qk.refl _ W1).drewN 1).trans ((af.o.on (qh.drewN W1 1)).away N t5));refine⟨_,rfl,qn aG.o,ax _ _ ?_⟩;clear ax K;refine qD ?_;have ab:=κ (U.o.step ao.o N (qA.trans (af.o.stay (qh.drewN W1 1)) t5));clear N t5;go_wp2;go_roundw
     case rel=>exact⟨j+1,τ,by go_num,by go_num,ab.o.1.sub (λb G=>ϔ _ G) aa.o.1,aj.o.trans ((aa.o.stay au.o).trans (ab.o.2.sub (λb G=>ϔ _ G)))⟩
     case measure=>simp[intOf];omega
    ·obtain rfl:j=5:=by omega
     have aS: ¬((5:Nat):Int)<5:=by omega
     go_wp2;go_roundw
     case rel=>exact ϓ ⟨by go_num,by go_num,aa.o.sub (λb G=>ϔ _ G) J.o.1,aN.o.trans (aj.o.sub (λb G=>ϔ _ G))⟩
     case measure=>simp[intOf]
  ·have ab:=κ N;have aO:=κ t5;clear N t5;go_wp2;go_ret;exact⟨rfl,ab.o,aO.o⟩
def wrB:List Int:=[128,96,0,5,0,0,0,100,0,0,0,50,16,0]
def OB:Lib.itoa 5=[53]:=by simp[Lib.itoa,Lib.decDigits]
def RA:Lib.join ([0,5,100].map Lib.itoa) [58]=[48,58,53,58,49,48,48]:=by simp[Lib.itoa,Lib.decDigits,Lib.join,List.intercalate]
def rdT:jS wrB=(⟨ύ,96,5,100,50,[],ύ,0,[],[16,0]⟩,0):=by kernel_rfl
def Oj (U:SlI .u8 w v wrB):Calls prog 16 #[v] w λe w'=> ∃I J N d G H,e= .returned (.tuple #[θ #[μ ύ,υ 96,φ 5,ω 100,ω 50,δ I 0 d,ύ,φ 0,δ J 0 G,δ N 2 H],ι 0])/\qh w w':=by
 refine(Ux v wrB w U (Byt.of_all ζ) ζ).mono ?_;rintro e w' ⟨Y,vb,aa,O,ps,m⟩;rw[rdT] at O ps;obtain⟨⟨I,d,rfl,-⟩,⟨J,G,rfl,-⟩,⟨N,H,rfl,-⟩⟩:=ps;exact⟨I,J,N,d,G,H,O,m⟩
def Rj {aa:World} (h:RmR aa w R tp5 F):Calls prog 14 #[γ R,ι 0] w λe w'=> ∃g cap b H d,e= .returned (δ (ϊ ⟨g,0,ϋ⟩) 1 cap)/\w'.cell? ⟨g,0,ϋ⟩=ϊ (ι 0)/\w'.cell? ⟨g,1,ϋ⟩=ϊ (δ (ϊ ⟨b,H,ϋ⟩) 14 d)/\SlI .u8 w' (δ (ϊ ⟨b,H,ϋ⟩) 14 d) wrB/\qh w w':=by
 refine(Rk h 0 (by rw[tq7];decide)).mono ?_;rintro e w' ⟨⟨v,rfl,G⟩,m⟩;rw[tq7] at G;have Y:=G.sl ζ;obtain⟨ai,cap,rfl,_,O,_⟩:=Y;obtain⟨g,H,cs,rfl,af,ae,J,v,rfl,I,_,_,ag,_⟩:=O 0 ζ;obtain⟨⟨xs,⟨_,U⟩,_⟩,_⟩:=id G;rcases U with ⟨e,_⟩ | ⟨g',ab,cur,e,ac,_⟩
 ·cases e
 ·injection e with e1 _ _
  injection e1 with e1
  injection e1 with e1 e2 _
  subst e1 e2;obtain⟨aj,d,rfl,_⟩:=id I;obtain⟨b,N,rfl,ad,ah⟩:=I.addr ζ;exact⟨g,cap,b,N,d,rfl,J 0 ζ,J 1 ζ,I,m⟩
def Hh {aI:World} (h:Pl aI pb (ϊ tp5) F w) (aB:Lib.TabIs prog aI uG .u64 Lib.pow10Tab):
  Calls prog 269 #[γ pb,ι 0] w λe w'=>e= .returned (.string ⟨#[48,58,53,58,49,48,48]⟩)/\qh w w':=by
 obtain⟨ba,hi,aV,aW,aX⟩:=info_parts (P:=prog) (e:=9) (z:= .string ByteArray.empty) (size:=1) (bytes:=16) ξ;obtain⟨R,ax,aw⟩:=h.room;have ao:w.cell? ⟨pb,0,ϋ⟩=ϊ (π (ϊ ⟨R,0,ϋ⟩)):=qi aw 0 rfl;have aN:=κ (vO aB h.2.2.1);have aj:=κ (Rj ax);clear h ax aw aB
 go_enter func269,ntmps269
 go_wp2_with ((go_at_call 14;(go_call aj.o as e w8 ⟨g,cap,b,ah,ag,rfl,ap,aq,aH,aE⟩;have an:=κ aH;have ak:=κ aE;clear aH aE)))
 go_loopw [5,17] (λu H wr=>(H= ι 0/\u= δ ϋ 0 0/\w8=wr)∨(H= ι 1/\(∃aG ae,u= δ aG 1 ae)/\jd 1 RTx (λ_=>False) wr w8.heap.size 9 u [⟨#[48,58,53,58,49,48,48]⟩]/\qh w8 wr)) (λ_ H _=>1-(intOf H).toNat)
 case atStart=>exact ϐ ⟨rfl,rfl,rfl⟩
 case round=>
  rcases hrel with ⟨rfl,rfl,rfl⟩ | ⟨rfl,⟨aG,ae,rfl⟩,aA,az⟩
  ·have ai:=κ (Oj (an.o.keep (qh.alloc w8 (.cells #[ι 0,δ (ϊ ⟨b,ah,ϋ⟩) 14 ag] 56))))
   go_upto_region 6 with ((go_at_call 16;(go_call ai.o as e w9 ⟨O,U,Y,I,J,N,rfl,aF⟩;have ad:=κ aF;clear aF)))
   have G:=qj ad.o (qp w8 (.cells #[ι 0,δ (ϊ ⟨b,ah,ϋ⟩) 14 ag] 56));have ab:=qp w9 (.cells #[μ ύ,υ 96,φ 5,ω 100,ω 50,δ O 0 I,ύ,φ 0,δ U 0 J,δ Y 2 N] 63);have G:=qv G (.cells #[μ ύ,υ 96,φ 5,ω 100,ω 50,δ O 0 I,ύ,φ 0,δ U 0 J,δ Y 2 N] 63);have aQ:=κ (((qh.alloc w8 (.cells #[ι 0,δ (ϊ ⟨b,ah,ϋ⟩) 14 ag] 56)).trans ad.o).al (.cells #[μ ύ,υ 96,φ 5,ω 100,ω 50,δ O 0 I,ύ,φ 0,δ U 0 J,δ Y 2 N] 63));generalize w9.alloc (.cells #[μ ύ,υ 96,φ 5,ω 100,ω 50,δ O 0 I,ύ,φ 0,δ U 0 J,δ Y 2 N] 63)=W9 at *;have bf:=β0 G;have bg:=β2 ab;have bh:=β3 ab;have aa:=qp W9 (.cells #[ι 0,ι 5,ι 100] 3);have am:=κ (aQ.o.al (.cells #[ι 0,ι 5,ι 100] 3))
   have aM:Hid (Calls prog 268 #[.string ⟨#[58]⟩,δ (ϊ ⟨W9.heap.size,0,ϋ⟩) 3 3] (W9.alloc (.cells #[ι 0,ι 5,ι 100] 3)) λe w'=>e= .returned (.string ⟨#[48,58,53,58,49,48,48]⟩)/\qh (W9.alloc (.cells #[ι 0,ι 5,ι 100] 3)) w'):=κ (WE ⟨#[58]⟩ [0,5,100] W9.heap.size 3 _ (λi y d=>qi aa i (by
    match i,d with
    | 0,d=>simpa using d
    | 1,d=>simpa using d
    | 2,d=>simpa using d)) (qq aa) ζ ζ ζ (vO aN.o (ak.o.trans am.o)) RA ζ)
   clear G ab aa ap aq ai ad an aj ao
   go_wp2_with (first | (go_at_call 268;(go_call aM.o as e w10 ⟨rfl,aC⟩;have ac:=κ (am.o.trans aC);clear aC)) | (at_builtin;(refine jr (R:=RTx) (D:=λ_=>False) _ rfl (.tmp 27) (.tmp 40) 215 rfl w8.heap.size 9 ba (.string ByteArray.empty) 1 16 underlying215 hi aV aW aX rfl ζ _ [] rfl (jd.nil _ _ _ _ _ _) w10.heap.size [.string ⟨#[48,58,53,58,49,48,48]⟩] ⟨#[48,58,53,58,49,48,48]⟩ rfl rfl (ze η) Z5 (λw' _=>rfl) (λb h=>h.elim) ζ ζ (ac.o.al _).size ?_;intro v' bc af ay aU;have aO:Hid (qh w8 bc):=κ (Below.grown (ac.o.al _) ay (ac.o.al _).size (λb h=>by cases h));obtain⟨bi,bb,be,rfl,aY,aZ⟩:=af.shape;obtain rfl:bb=1:=aY;have aR:=κ af;clear af ay aU aZ)))
   go_roundw
   case rel=>exact ϓ ⟨by go_num,⟨_,_,rfl⟩,aR.o,aO.o⟩
   case measure=>simp[intOf]
  ·clear ao ap aq;have aL:=κ aA;have aK:=κ az;clear aA az;obtain⟨aT,bd,aS,ar,au,av⟩:=aL.o.tx ζ;injection aS with e3 e4 e5
   subst e3 e5;have aJ:=κ (Fj ⟨#[48,58,53,58,49,48,48]⟩ aT ae wr (av 0 _ rfl) au ar ζ);clear ar au av e4
   go_wp2_with ((go_at_call 300;(go_call aJ.o as e w5 ⟨rfl,aD⟩;have aP:=κ aD;clear aD)))
   go_ret;exact⟨rfl,ak.o.trans (aK.o.trans aP.o)⟩
def Q0 (w:World) (base:Nat) (t u H e:TypeId) (i:TypeInfo) (N:P.underlying t=ϊ (.slice e)) (O:P.underlying u=ϊ .string) (hi:P.info? e=ϊ i) (ab:i.zero=ϊ (υ 0))
  (J:i.size=1) (Y:i.bytes=1) (v:Value) (n:Nat) (xs:List Value) (G:w.ownsRow base e 1 v n xs) (s:ByteArray)
  (U:n+s.size<=maxLen) (ac:n+s.size<=140737488355328) (ag:base<=w.heap.size):
  ∃v' w',(Builtin.append_ #[t,u] H #[v,.string s]).run P w= .ok v' w'/\w'.ownsRow base e 1 v' (n+s.size) (xs++Lib.strCells s)/\w.grownBy w' v.ownBlock/\(∀g,v'.ownBlock=ϊ g->v.ownBlock=ϊ g∨w.heap.size<=g):=by
 obtain⟨v',w',I,ae,af,_⟩:=Lib.run_append_own_string (P:=P) w base t u H e i N O hi ab J Y v n xs G s U ac ag;refine⟨v',w',I,ae,af,λg aa=> ?_⟩;rcases id G.2 with ⟨rfl,ad⟩ | ⟨b,cap,cur,rfl,ak,ai,an,al,ah,ao⟩
 ·subst ad;obtain rfl:xs=[]:=Ϥ (by simpa using G.1);obtain⟨ap,w2,d,aj,_⟩:=Lib.run_append_own_string (P:=P) w w.heap.size t u H e i N O hi ab J Y _ 0 [] (World.ownsRow_nil w _ e 1) s U ac (ϕ _);rw[I] at d;injection d with e1 e2
  subst e1;exact ϓ (j8 aj aa)
 ·by_cases hroom:n+s.size<=cap
  ·have am:cur.size=cap:=by simpa using ah
   have d:=Lib.run_append_room_string (P:=P) w t u H e i N O hi J b n cap cur ai s hroom τ;rw[I] at d;injection d with e1 e2
   subst e1;exact ϐ aa
  ·have d:=Lib.run_append_grow_string (P:=P) w t u H e i (υ 0) N O hi ab ⟨b,0,ϋ⟩ n cap xs (by rw[J];simpa using G.1) (G.cells (g:=b) rfl) s τ (by simp only[maxLen] at U;omega) (by rw[Y];exact growslice_fits τ τ);rw[I] at d;injection d with e1 e2
   subst e1;refine ϓ (Nat.le_of_eq ?_);injection aa
def QZ {ops:Array Oper} {rest:List Oper} {o:Oper} {a:Act} {Q:Exit->Act->World->Prop} (aa:o.guard=ϋ) (d x:Operand) (t u:TypeId)
  (ab:o.op= .call {callee:= .builtin .append,args:= #[d,x],argTypes:= #[t,u]})
  (base:Nat) (e:TypeId) (i:TypeInfo) (ag:P.underlying t=ϊ (.slice e)) (ah:P.underlying u=ϊ .string) (hi:P.info? e=ϊ i) (aj:i.zero=ϊ (υ 0)) (af:i.size=1) (U:i.bytes=1)
  (v:Value) (n:Nat) (xs:List Value) (ae:a.eval d=v) (ac:w.ownsRow base e 1 v n xs) (s:ByteArray) (ai:a.eval x= .string s)
  (J:n+s.size<=maxLen) (Y:n+s.size<=140737488355328) (O:base<=w.heap.size)
  (h: ∀v' w',w'.ownsRow base e 1 v' (n+s.size) (xs++Lib.strCells s)->w.grownBy w' v.ownBlock->(∀g,v'.ownBlock=ϊ g->v.ownBlock=ϊ g∨w.heap.size<=g)->wpList P ops Q rest (a.put o.dst v') w'):wpList P ops Q (o::rest) a w:=by
 refine wpList_plain aa λK N=> ?_
 obtain⟨v',w',ad,G,H,I⟩:=Q0 (P:=P) w base t u o.type e i ag ah hi aj af U v n xs ac s J Y O;unfold Oper.wp execOp;simp only[ab,resolve,invoke,builtin,Sem.run_bind,Sem.run_pure,Result.andThen_ok,K2,ϡ,C8,ae,ai,ad];exact N _ _ (h v' w' G H I)
def Bd (B:Nat) (F:List Nat) (w:World) (b:Nat) (l:List UInt8):Prop:=b∈F/\B<=b/\ ∃p v,(p= .pointer ϋ∨p= .pointer (ϊ ⟨b,0,ϋ⟩))/\w.heap[b]? =ϊ (.cells #[p,v] 212 (0,0))/\w.ownsRow B 5 1 v l.length (Lib.byteCells l)/\v.ownBlock≠ϊ b/\ ∀g,v.ownBlock=ϊ g->g∈F
def Bd.is (h:Bd B F w b l):Lib.IsBuilder 212 5 B b (Lib.byteCells l) w:=by
 obtain⟨_,d,p,v,J,G,I,H,_⟩:=h;rcases J with rfl | rfl
 ·exact ϐ ⟨d,v,G,by rw[Lib.byteCells_length];exact I,H⟩
 ·exact ϓ ⟨d,v,G,by rw[Lib.byteCells_length];exact I,H⟩
def Bd.more (h:Bd B F w b l) (t:qA F w w'):Bd B F w' b l:=by
 obtain⟨hF,J,p,v,U,d,O,N,G⟩:=h;refine⟨hF,J,p,v,U,by rw[t.2 b hF];exact d, ?_,N,G⟩;obtain⟨H,I⟩:=O;refine⟨H, ?_⟩;rcases I with h | ⟨g,cap,cur,e1,d,hgg,rest⟩
 ·exact ϐ h
 ·exact ϓ ⟨g,cap,cur,e1,d,by rw[t.2 g (G g (by rw[e1];rfl))];exact hgg,rest⟩
def KU (h:Bd B F w b l):
  Calls prog 157 #[γ b] w λe w'=>e= .returned (.tuple #[])/\(∃v,w'.heap[b]? =ϊ (.cells #[γ b,v] 212 (0,0))/\w'.ownsRow B 5 1 v l.length (Lib.byteCells l)/\v.ownBlock≠ϊ b/\ ∀g,v.ownBlock=ϊ g->g∈F)/\qk (λx=>x∈F) w w':=by
 have d:=h.is;obtain⟨hF,O,p,v,U,G,J,H,I⟩:=h;rcases d with d | d
 ·refine(Any.Builder_copyCheck_fresh {XA with} bldX.toX72 b w d.cell0 d.shape d.frozen0).mono ?_;rintro e w' ⟨rfl,rfl⟩;refine⟨rfl,⟨v,by simp[World.setCell,G5,G], ?_,H,I⟩,(qk.refl _ _).set hF _⟩;exact J.kept (row:=ϊ b) ⟨rfl,rfl,rfl,by simp[World.setCell],λk _ N=>Below.heap_setCell _ _ _ _ (λe=>N (by simp[e]))⟩ (ϓ H)
 ·refine(Any.Builder_copyCheck_used {XA with} bldX.toX72 b w d.cell0).mono ?_;rintro e w' ⟨rfl,rfl⟩;have e0:=d.cell0;rw[Lib.cell_of_heap G] at e0;injection e0 with e0
  subst e0;exact⟨rfl,⟨v,G,J,H,I⟩,qk.refl _ _⟩
def Cm {v':Value} (hF:b∈F) (I:B<=b) (d:w.heap[b]? =ϊ (.cells #[γ b,v] 212 (0,0))) (H:w.ownsRow B 5 1 v' l.length (Lib.byteCells l)) (J: ∀g,v'.ownBlock=ϊ g->g∈F):
  Bd B F (w.setCell ⟨b,1,ϋ⟩ v') b l:=by
 have G:=Lib.ownBlock_ne H d bldX.neB5;exact⟨hF,I,_,v',ϓ rfl,by simp[World.setCell,G5,d],H.kept (row:=ϊ b) ⟨rfl,rfl,rfl,by simp[World.setCell],λk _ N=>Below.heap_setCell _ _ _ _ (λe=>N (by simp[e]))⟩ (ϓ G),G,J⟩
def RV (h:Bd B F w b l) (s:ByteArray) (ax:l.length+s.size<=100000):
  Calls prog 100 #[γ b,.string s] w λe w'=>e= .returned (.tuple #[ι s.size,.nilIface])/\qk (λx=>x∈F) w w'/\ ∃g,(g∈F∨w.heap.size<=g/\g<w'.heap.size)/\Bd B (g::F) w' b (l++s.data.toList):=by
 obtain⟨aq,hi,an,ao,ap⟩:=info_parts (P:=prog) (e:=5) (z:= υ 0) (size:=1) (bytes:=1) ξ;have hF:=h.1;have af:=h.2.1;have ay:b<w.heap.size:=by obtain⟨_,_,_,_,_,ah,_⟩:=h;exact lt_of_block ah
 have ae:=κ (KU h);clear h
 go_enter func100,ntmps100
 go_wp2_with (first | (go_at_call 157;(go_call ae.o as e w1 ⟨rfl,⟨v,H,aa,am,U⟩,N⟩;obtain⟨I,J,rfl⟩:=j7 aa;have az:w.heap.size<=w1.heap.size:=N.size;have ar:w1.cell? ⟨b,0,ϋ⟩=ϊ (π (ϊ ⟨b,0,ϋ⟩)):=(by rw[Lib.cell_of_heap H];rfl);have c1:w1.cell? ⟨b,1,ϋ⟩=ϊ (δ I l.length J):=(by rw[Lib.cell_of_heap H];rfl))) | (at_builtin;refine QZ rfl _ _ 35 9 rfl B 5 aq underlying35 underlying9 hi an ao ap _ _ _ rfl aa s rfl ?c3 ?c4 ?c5 ?_))
 case c3=>unfold maxLen;omega
 case c4=>omega
 case c5=>omega
 intro v' w2 ab Y ag;have al:b<w1.heap.size:=by omega
 have G:w2.heap[b]? =ϊ (.cells #[γ b,δ I l.length J] 212 (0,0)):=by
  rw[Y.block b al (λe=>am e.symm)];exact H
 have au:w2.cell? ⟨b,0,ϋ⟩=ϊ (π (ϊ ⟨b,0,ϋ⟩)):=by rw[Lib.cell_of_heap G];rfl
 have av:w2.cell? ⟨b,1,ϋ⟩=ϊ (δ I l.length J):=by rw[Lib.cell_of_heap G];rfl
 have aw:w2.frozen? ⟨b,1,ϋ⟩=ύ:=Lib.frozen_of_heap G 1;have ad:qk (λx=>x∈F) w w2:=N.trans ((qk.of_grown Y).mono λk d=>U k d);obtain⟨g,ak,ai,O,ac,cap,rfl⟩: ∃g,(g∈F∨w.heap.size<=g/\g<w2.heap.size)/\(∀k,v'.ownBlock=ϊ k->k∈g::F)/\ ∃O ac cap,v'= δ O ac cap:=by
  rcases id ab.2 with ⟨rfl,_⟩ | ⟨g,cap,cur,rfl,_,aj,_⟩
  ·exact⟨b,ϐ hF,(λk d=>by cases d),_,_,_,rfl⟩
  ·refine⟨g, ?_,(λk d=>by injection d with d;subst d;exact ϣ),_,_,_,rfl⟩;rcases ag g rfl with e | e
   ·exact ϐ (U g e)
   ·exact ϓ ⟨τ,lt_of_block aj⟩
 go_wp2
 go_ret2
 refine⟨rfl,ad.set hF _,g, ?_,Cm (Ϧ _ hF) af G ?_ ai⟩
 ·simpa [World.setCell] using ak
 ·rw[Ϗ,Lib.byteCells_append,<-Lib.strCells_eq];exact ab
def OS (h:Bd B F w b l) (aB:l.length<=100000):
  Calls prog 102 #[γ b,υ 10] w λe w'=>e= .returned .nilIface/\qk (λx=>x∈F) w w'/\ ∃g,(g∈F∨w.heap.size<=g/\g<w'.heap.size)/\Bd B (g::F) w' b (l++[10]):=by
 obtain⟨av,hi,aq,ar,au⟩:=info_parts (P:=prog) (e:=5) (z:= υ 0) (size:=1) (bytes:=1) ξ;have hF:=h.1;have aj:=h.2.1;have aC:b<w.heap.size:=by obtain⟨_,_,_,_,_,al,_⟩:=h;exact lt_of_block al
 have af:=κ (KU h);have ai: ∀l:List UInt8,Lib.byteCells l=(l.map λc=>(c.toNat:Int)).map (Value.int .u8):=λl=>by unfold Lib.byteCells;rw[S5];rfl
 clear h
 go_enter func102,ntmps102
 go_wp2_with (first | (go_at_call 157;(go_call af.o as e w1 ⟨rfl,⟨v,N,O,ap,ab⟩,aa⟩;obtain⟨H,I,rfl⟩:=j7 O;have aE:w.heap.size<=w1.heap.size:=aa.size;have aw:w1.cell? ⟨b,0,ϋ⟩=ϊ (π (ϊ ⟨b,0,ϋ⟩)):=(by rw[Lib.cell_of_heap N];rfl);have c1:w1.cell? ⟨b,1,ϋ⟩=ϊ (δ H l.length I):=(by rw[Lib.cell_of_heap N];rfl);have ad:w1.ownsRow B 5 1 (δ H l.length I) (l.map λc=>(c.toNat:Int)).length ((l.map λc=>(c.toNat:Int)).map (Value.int .u8)):=(by rw[C3,<-ai];exact O))) | (at_builtin;refine qR _ rfl _ _ 35 rfl B 5 av (υ 0) 1 underlying35 hi aq ar au rfl _ .u8 (l.map λc=>(c.toNat:Int)) rfl (ad.alloc _) _ [10] rfl (SlI.lit .u8 w1 [10] 5 _ 1 _ η rfl η η) (by simp;omega) ζ (by simp;omega) ?_))
 intro v' w2 U ac ak;have aD:b<w1.heap.size:=by omega
 have G:w2.heap[b]? =ϊ (.cells #[γ b,δ H l.length I] 212 (0,0)):=by
  rw[ac.block b (by simp;omega) (λe=>ap e.symm)];exact qv N _
 have ax:w2.cell? ⟨b,0,ϋ⟩=ϊ (π (ϊ ⟨b,0,ϋ⟩)):=by rw[Lib.cell_of_heap G];rfl
 have ay:w2.cell? ⟨b,1,ϋ⟩=ϊ (δ H l.length I):=by rw[Lib.cell_of_heap G];rfl
 have aA:w2.frozen? ⟨b,1,ϋ⟩=ύ:=Lib.frozen_of_heap G 1;have ae:qk (λx=>x∈F) w w2:=(aa.more Z0).trans ((qk.of_grown ac).mono λk d=>ab k d);obtain⟨g,ao,am,J,Y,cap,rfl⟩: ∃g,(g∈F∨w.heap.size<=g/\g<w2.heap.size)/\(∀k,v'.ownBlock=ϊ k->k∈g::F)/\ ∃J Y cap,v'= δ J Y cap:=by
  rcases id U.2 with ⟨rfl,_⟩ | ⟨g,cap,cur,rfl,_,an,_⟩
  ·exact⟨b,ϐ hF,(λk d=>by cases d),_,_,_,rfl⟩
  ·refine⟨g, ?_,(λk d=>by injection d with d;subst d;exact ϣ),_,_,_,rfl⟩;rcases ak with e | e
   ·exact ϐ (ab g e.symm)
   ·have az:g=w1.heap.size+1:=by simpa [Value.ownBlock] using e
    exact ϓ ⟨τ,lt_of_block an⟩
 have ag:Hid (w2.ownsRow B 5 1 (δ J Y cap) (l++[10]).length (Lib.byteCells (l++[10]))):=κ (by
  have ah:Lib.byteCells (l++[10])=List.map (Value.int .u8∘λc:UInt8=>(c.toNat:Int)) l++[υ 10]:=by unfold Lib.byteCells;rw[Ξ];rfl
  rw[Ϗ,ah]
  exact U)
 clear U O ad;go_wp2;go_ret;refine⟨rfl,ae.set hF _,g, ?_,Cm (Ϧ _ hF) aj G ?_ am⟩
 ·simpa [World.setCell] using ao
 ·exact ag.o
structure Qp (s:ByteArray) (ps:List ByteArray):Prop where
 split:Lib.splitB ⟨#[32]⟩ 0 (Lib.countB s ⟨#[32]⟩) s=ps
 cnt:Lib.countB s ⟨#[32]⟩+1=ps.length
 few:ps.length<=100
 size:s.size<4294967281
 ne: ∀x∈ps,(x.data.toList==([]:List UInt8))=ύ
def AI {s:ByteArray} {ps:List ByteArray} (h:Qp s ps) {aD:Int} (w:World) (av:w.cell? ⟨ZT,0,ϋ⟩=ϊ (ι aD)):
  Calls prog 99 #[.string s] w λe w'=>(∃H cap,e= .returned (δ H ps.length cap)/\SlP 1 RTx w' (δ H ps.length cap) ps)/\qh w w':=by
 obtain⟨aB,hi,aw,ax,ay⟩:=info_parts (P:=prog) (e:=9) (z:= .string ByteArray.empty) (size:=1) (bytes:=16) ξ;obtain⟨ac,ad,aG,ae,af⟩:=h;have ab:=κ (Co s ⟨#[32]⟩ w ae av ζ);rw[ac,ad] at ab;have am:Hid (∀i (hi:i<ps.length),(ps[i].toList==([]:List UInt8))=ύ):=κ (λi hi=>by rw[ByteArray.toList_eq];exact af _ (Ϣ hi));clear ac ad ae af
 go_enter func99,ntmps99
 go_wp2_with ((go_at_call 98;(go_call ab.o as e w1 ⟨rfl,N⟩;have ap:Hid (qh w w1):=κ (by rw[N];exact qh.alloc _ _);have aj:Hid (w1.heap[w.heap.size]? =ϊ (.cells (ps.map Value.string).toArray 9 (0,0))):=κ (by rw[N];exact qp _ _);clear N)))
 go_loopw [3,9] (λu U wr=> ∃i:Nat,i<=ps.length/\U= ι i/\(∃aa Y J,u= δ aa Y J)/\jd 1 RTx (λ_=>False) wr w1.heap.size 9 u (ps.take i)/\qh w1 wr) (λ_ U _=>ps.length-(intOf U).toNat)
 case atStart=>exact⟨0,τ,rfl,⟨_,_,_,rfl⟩,jd.nil _ _ _ _ _ _,qh.refl _⟩
 case round=>
  obtain⟨i,aH,rfl,⟨aa,Y,J,rfl⟩,ai,ah⟩:=hrel;have I:=κ ai;have G:=κ ah;clear ai ah;by_cases hlt:i<ps.length
  ·have au:(i:Int)<(ps.length:Int):=by omega
   have aE:wr.cell? ⟨w.heap.size,i,ϋ⟩=ϊ (.string ps[i]):=qi (qj G.o aj.o) i (by simp[ϖ hlt]);have aI:=am.o i hlt;have ao:Hid (ps.take (i+1)=ps.take i++[ps[i]]):=κ (ϵ hlt);have aJ:(ps.take i).length<=100:=by rw[ϛ];omega
   generalize ps[i]=x at *;generalize ps.take i=fl at *;have an:=κ (I.o.on (qh.alloc wr (.cells #[.string x] 9)));have ak:Hid (∀b,(δ aa Y J).ownBlock=ϊ b->w1.heap.size<=b):=κ (λb h=>I.o.ge h)
   go_wp2_with (at_builtin;(refine jr (R:=RTx) (D:=λ_=>False) _ rfl (.tmp 15) (.tmp 17) 215 rfl w1.heap.size 9 aB (.string ByteArray.empty) 1 16 underlying215 hi aw ax ay rfl ζ _ fl rfl an.o wr.heap.size [.string x] x rfl rfl (ze η) Z5 (λw' _=>rfl) (λb h=>h.elim) ζ τ (G.o.al _).size ?_;intro v' w8 d ag ar;have aC:Hid (qh w1 w8):=κ (Below.grown (G.o.al _) ag (G.o.al _).size ak.o);obtain⟨aL,aK,aF,rfl,az,aA⟩:=d.shape;have aq:=κ d;clear d ag ar az aA))
   go_roundw
   case rel=>exact⟨i+1,τ,by go_num,⟨_,_,_,rfl⟩,by rw[ao.o];exact aq.o,aC.o⟩
   case measure=>simp[intOf];omega
  ·obtain rfl:i=ps.length:=by omega
   have au: ¬(ps.length:Int)<(ps.length:Int):=by omega
   go_wp2;go_ret;have d:=I.o;rw[ϭ] at d;have O:=d.sl ζ;obtain⟨H,cap,e,_⟩:=id O;rw[e] at O ⊢;exact⟨⟨H,cap,rfl,O⟩,ap.o.trans G.o⟩
def scT:ByteArray:=⟨#[114,111,111,109,32,50,32,50,32,49,32,49,32,50,32,49,10,112,117,98,108,105,115,104,32,48,32,55,32,56,32,57,10,106,111,105,110,32,48,32,53,48,32,53,32,49,48,48,10,116,97,107,101,32,48,32,48,32,48,10,107,101,121,32,55,32,49,32,57,10,116,117,114,110,32,49,10,119,114,111,116,101,32,48]⟩
def scL:List ByteArray:=[⟨#[114,111,111,109,32,50,32,50,32,49,32,49,32,50,32,49]⟩,⟨#[112,117,98,108,105,115,104,32,48,32,55,32,56,32,57]⟩,⟨#[106,111,105,110,32,48,32,53,48,32,53,32,49,48,48]⟩,⟨#[116,97,107,101,32,48,32,48,32,48]⟩,⟨#[107,101,121,32,55,32,49,32,57]⟩,⟨#[116,117,114,110,32,49]⟩,⟨#[119,114,111,116,101,32,48]⟩]
def scS:Lib.splitB ⟨#[10]⟩ 0 (Lib.countB scT ⟨#[10]⟩) scT=scL:=by kernel_rfl
def scC:Lib.countB scT ⟨#[10]⟩=6:=by kernel_rfl
def OM (w:World):Calls prog 161 #[.string ⟨#[114,111,111,109]⟩] w λe w'=>e= .returned (.string ⟨#[110,110,110,110,110,110]⟩)/\w'=w:=by
 go_enter func161,ntmps161
 go_wp2;go_ret;exact⟨rfl,rfl⟩
def MK:Qp ⟨#[114,111,111,109,32,50,32,50,32,49,32,49,32,50,32,49]⟩ [⟨#[114,111,111,109]⟩,⟨#[50]⟩,⟨#[50]⟩,⟨#[49]⟩,⟨#[49]⟩,⟨#[50]⟩,⟨#[49]⟩]:=⟨ξ,ξ,ζ,ζ,ζ⟩
def Rr:Qm ⟨#[110,110,110,110,110,110]⟩ [⟨#[50]⟩,⟨#[50]⟩,⟨#[49]⟩,⟨#[49]⟩,⟨#[50]⟩,⟨#[49]⟩] [2,2,1,1,2,1]:=⟨rfl,ζ,ζ,rfl,λi h d G=>by
 match i,h with
 | 0,_=>exact(⟨ζ,ζ,ζ,ζ,ζ⟩:vi ⟨#[50]⟩ 999999999 2)
 | 1,_=>exact(⟨ζ,ζ,ζ,ζ,ζ⟩:vi ⟨#[50]⟩ 999999999 2)
 | 2,_=>exact(⟨ζ,ζ,ζ,ζ,ζ⟩:vi ⟨#[49]⟩ 999999999 1)
 | 3,_=>exact(⟨ζ,ζ,ζ,ζ,ζ⟩:vi ⟨#[49]⟩ 999999999 1)
 | 4,_=>exact(⟨ζ,ζ,ζ,ζ,ζ⟩:vi ⟨#[50]⟩ 999999999 2)
 | 5,_=>exact(⟨ζ,ζ,ζ,ζ,ζ⟩:vi ⟨#[49]⟩ 999999999 1)⟩
def OL (w:World):Calls prog 161 #[.string ⟨#[112,117,98,108,105,115,104]⟩] w λe w'=>e= .returned (.string ⟨#[110,110,110,110]⟩)/\w'=w:=by
 go_enter func161,ntmps161
 go_wp2;go_ret;exact⟨rfl,rfl⟩
def MJ:Qp ⟨#[112,117,98,108,105,115,104,32,48,32,55,32,56,32,57]⟩ [⟨#[112,117,98,108,105,115,104]⟩,⟨#[48]⟩,⟨#[55]⟩,⟨#[56]⟩,⟨#[57]⟩]:=⟨ξ,ξ,ζ,ζ,ζ⟩
def Rq:Qm ⟨#[110,110,110,110]⟩ [⟨#[48]⟩,⟨#[55]⟩,⟨#[56]⟩,⟨#[57]⟩] [0,7,8,9]:=⟨rfl,ζ,ζ,rfl,λi h d G=>by
 match i,h with
 | 0,_=>exact(⟨ζ,ζ,ζ,ζ,ζ⟩:vi ⟨#[48]⟩ 999999999 0)
 | 1,_=>exact(⟨ζ,ζ,ζ,ζ,ζ⟩:vi ⟨#[55]⟩ 999999999 7)
 | 2,_=>exact(⟨ζ,ζ,ζ,ζ,ζ⟩:vi ⟨#[56]⟩ 999999999 8)
 | 3,_=>exact(⟨ζ,ζ,ζ,ζ,ζ⟩:vi ⟨#[57]⟩ 999999999 9)⟩
def OJ (w:World):Calls prog 161 #[.string ⟨#[106,111,105,110]⟩] w λe w'=>e= .returned (.string ⟨#[110,110,115,110]⟩)/\w'=w:=by
 go_enter func161,ntmps161
 go_wp2;go_ret;exact⟨rfl,rfl⟩
def MH:Qp ⟨#[106,111,105,110,32,48,32,53,48,32,53,32,49,48,48]⟩ [⟨#[106,111,105,110]⟩,⟨#[48]⟩,⟨#[53,48]⟩,⟨#[53]⟩,⟨#[49,48,48]⟩]:=⟨ξ,ξ,ζ,ζ,ζ⟩
def Rp:Qm ⟨#[110,110,115,110]⟩ [⟨#[48]⟩,⟨#[53,48]⟩,⟨#[53]⟩,⟨#[49,48,48]⟩] [0,50,5,100]:=⟨rfl,ζ,ζ,rfl,λi h d G=>by
 match i,h with
 | 0,_=>exact(⟨ζ,ζ,ζ,ζ,ζ⟩:vi ⟨#[48]⟩ 999999999 0)
 | 1,_=>exact(⟨ζ,ζ,ζ,ζ,ζ⟩:vi ⟨#[53,48]⟩ 999999999 50)
 | 2,_=>exact(⟨ζ,ζ,ζ,ζ,ζ⟩:vi ⟨#[53]⟩ 65535 5)
 | 3,_=>exact(⟨ζ,ζ,ζ,ζ,ζ⟩:vi ⟨#[49,48,48]⟩ 999999999 100)⟩
def OI (w:World):Calls prog 161 #[.string ⟨#[116,97,107,101]⟩] w λe w'=>e= .returned (.string ⟨#[110,110,110]⟩)/\w'=w:=by
 go_enter func161,ntmps161
 go_wp2;go_ret;exact⟨rfl,rfl⟩
def MG:Qp ⟨#[116,97,107,101,32,48,32,48,32,48]⟩ [⟨#[116,97,107,101]⟩,⟨#[48]⟩,⟨#[48]⟩,⟨#[48]⟩]:=⟨ξ,ξ,ζ,ζ,ζ⟩
def Ro:Qm ⟨#[110,110,110]⟩ [⟨#[48]⟩,⟨#[48]⟩,⟨#[48]⟩] [0,0,0]:=⟨rfl,ζ,ζ,rfl,λi h d G=>by
 match i,h with
 | 0,_=>exact(⟨ζ,ζ,ζ,ζ,ζ⟩:vi ⟨#[48]⟩ 999999999 0)
 | 1,_=>exact(⟨ζ,ζ,ζ,ζ,ζ⟩:vi ⟨#[48]⟩ 999999999 0)
 | 2,_=>exact(⟨ζ,ζ,ζ,ζ,ζ⟩:vi ⟨#[48]⟩ 999999999 0)⟩
def OH (w:World):Calls prog 161 #[.string ⟨#[107,101,121]⟩] w λe w'=>e= .returned (.string ⟨#[110,115,110]⟩)/\w'=w:=by
 go_enter func161,ntmps161
 go_wp2;go_ret;exact⟨rfl,rfl⟩
def ME:Qp ⟨#[107,101,121,32,55,32,49,32,57]⟩ [⟨#[107,101,121]⟩,⟨#[55]⟩,⟨#[49]⟩,⟨#[57]⟩]:=⟨ξ,ξ,ζ,ζ,ζ⟩
def Rn:Qm ⟨#[110,115,110]⟩ [⟨#[55]⟩,⟨#[49]⟩,⟨#[57]⟩] [7,1,9]:=⟨rfl,ζ,ζ,rfl,λi h d G=>by
 match i,h with
 | 0,_=>exact(⟨ζ,ζ,ζ,ζ,ζ⟩:vi ⟨#[55]⟩ 999999999 7)
 | 1,_=>exact(⟨ζ,ζ,ζ,ζ,ζ⟩:vi ⟨#[49]⟩ 65535 1)
 | 2,_=>exact(⟨ζ,ζ,ζ,ζ,ζ⟩:vi ⟨#[57]⟩ 999999999 9)⟩
def OG (w:World):Calls prog 161 #[.string ⟨#[116,117,114,110]⟩] w λe w'=>e= .returned (.string ⟨#[116]⟩)/\w'=w:=by
 go_enter func161,ntmps161
 go_wp2;go_ret;exact⟨rfl,rfl⟩
def MC:Qp ⟨#[116,117,114,110,32,49]⟩ [⟨#[116,117,114,110]⟩,⟨#[49]⟩]:=⟨ξ,ξ,ζ,ζ,ζ⟩
def Rm:Qm ⟨#[116]⟩ [⟨#[49]⟩] [1]:=⟨rfl,ζ,ζ,rfl,λi h d G=>by
 match i,h with
 | 0,_=>exact(⟨ζ,ζ,ζ,ζ,ζ⟩:vi ⟨#[49]⟩ 20 1)⟩
def OF (w:World):Calls prog 161 #[.string ⟨#[119,114,111,116,101]⟩] w λe w'=>e= .returned (.string ⟨#[110]⟩)/\w'=w:=by
 go_enter func161,ntmps161
 go_wp2;go_ret;exact⟨rfl,rfl⟩
def Mz:Qp ⟨#[119,114,111,116,101,32,48]⟩ [⟨#[119,114,111,116,101]⟩,⟨#[48]⟩]:=⟨ξ,ξ,ζ,ζ,ζ⟩
def Rl:Qm ⟨#[110]⟩ [⟨#[48]⟩] [0]:=⟨rfl,ζ,ζ,rfl,λi h d G=>by
 match i,h with
 | 0,_=>exact(⟨ζ,ζ,ζ,ζ,ζ⟩:vi ⟨#[48]⟩ 999999999 0)⟩
def Of {H:World} (h:Pl H pb (ϊ tp4) F w) (ad:Lib.TabIs prog H uG .u64 Lib.pow10Tab) (O: ∀i y,([1]:List Int)[i]? =ϊ y->w.cell? ⟨g,i,ϋ⟩=ϊ (ι y)):
  Calls prog 218 #[γ pb,.string ⟨#[116,117,114,110]⟩,δ (ϊ ⟨g,0,ϋ⟩) 1 cap] w λe w'=>e= .returned (.string ⟨#[53]⟩)/\Pl H pb (ϊ tp5) F w'/\xl pb F w w':=by
 obtain⟨R,ac,N⟩:=h.room;have ae:w.cell? ⟨pb,0,ϋ⟩=ϊ (π (ϊ ⟨R,0,ϋ⟩)):=qi N 0 rfl;have c1:=O 0 1 rfl;have U:=κ (Mh h);clear h ac N O
 go_enter func218,ntmps218
 go_wp2_with (first | (go_at_call 267;(go_call U.o as e w5 ⟨rfl,d,t5⟩;have I:=κ d;have aa:=κ t5;have J:=κ (LS 5 ζ w5 (vO ad d.2.2.1));rw[OB] at J;clear d t5)) | (go_at_call 159;(go_call J.o as e w6 ⟨rfl,G⟩;have Y:=κ (I.o.on G);have ab:=κ (aa.o.trans (I.o.stay G));clear G)))
 go_ret;exact⟨rfl,Y.o,ab.o⟩
def do5 {d:World} (h:Pl d pb (ϊ tp4) F w) (Y:Lib.TabIs prog d uG .u64 Lib.pow10Tab) (I: ∀i y,([1]:List Int)[i]? =ϊ y->w.cell? ⟨g,i,ϋ⟩=ϊ (ι y)):
  Calls prog 162 #[γ pb,.string ⟨#[116,117,114,110]⟩,δ (ϊ ⟨g,0,ϋ⟩) 1 cap] w λe w'=>e= .returned (.string ⟨#[53]⟩)/\Pl d pb (ϊ tp5) F w'/\xl pb F w w':=by
 obtain⟨R,U,H⟩:=h.room;have aa:w.cell? ⟨pb,0,ϋ⟩=ϊ (π (ϊ ⟨R,0,ϋ⟩)):=qi H 0 rfl;have J:=κ (Of (cap:=cap) h Y I);clear h U H I
 go_enter func162,ntmps162
 go_wp2_with ((go_at_call 218;(go_call J.o as e w5 ⟨rfl,G,t5⟩;have N:=κ G;have O:=κ t5;clear G t5)))
 go_ret;exact⟨rfl,N.o,O.o⟩
def Oe (h:Pl G pb (ϊ tp5) F w) (aa:Lib.TabIs prog G uG .u64 Lib.pow10Tab) (J: ∀i y,([0]:List Int)[i]? =ϊ y->w.cell? ⟨g,i,ϋ⟩=ϊ (ι y)):
  Calls prog 218 #[γ pb,.string ⟨#[119,114,111,116,101]⟩,δ (ϊ ⟨g,0,ϋ⟩) 1 cap] w λe w'=>e= .returned (.string ⟨#[48,58,53,58,49,48,48]⟩)/\Pl G pb (ϊ tp5) F w'/\xl pb F w w':=by
 obtain⟨R,Y,I⟩:=h.room;have ab:w.cell? ⟨pb,0,ϋ⟩=ϊ (π (ϊ ⟨R,0,ϋ⟩)):=qi I 0 rfl;have c1:=J 0 0 rfl;have N:=κ (Hh h aa);have H:=κ h;clear h Y I J
 go_enter func218,ntmps218
 go_wp2_with ((go_at_call 269;(go_call N.o as e w5 ⟨rfl,d⟩;have O:=κ (H.o.on d);have U:=κ (H.o.stay d);clear d)))
 go_ret;exact⟨rfl,O.o,U.o⟩
def do6 {d:World} (h:Pl d pb (ϊ tp5) F w) (Y:Lib.TabIs prog d uG .u64 Lib.pow10Tab) (I: ∀i y,([0]:List Int)[i]? =ϊ y->w.cell? ⟨g,i,ϋ⟩=ϊ (ι y)):
  Calls prog 162 #[γ pb,.string ⟨#[119,114,111,116,101]⟩,δ (ϊ ⟨g,0,ϋ⟩) 1 cap] w λe w'=>e= .returned (.string ⟨#[48,58,53,58,49,48,48]⟩)/\Pl d pb (ϊ tp5) F w'/\xl pb F w w':=by
 obtain⟨R,U,H⟩:=h.room;have aa:w.cell? ⟨pb,0,ϋ⟩=ϊ (π (ϊ ⟨R,0,ϋ⟩)):=qi H 0 rfl;have J:=κ (Oe (cap:=cap) h Y I);clear h U H I
 go_enter func162,ntmps162
 go_wp2_with ((go_at_call 218;(go_call J.o as e w5 ⟨rfl,G,t5⟩;have N:=κ G;have O:=κ t5;clear G t5)))
 go_ret;exact⟨rfl,N.o,O.o⟩
def Ha:Nat->ByteArray
 | 0=>⟨#[114,111,111,109,32,50,32,50,32,49,32,49,32,50,32,49]⟩
 | 1=>⟨#[112,117,98,108,105,115,104,32,48,32,55,32,56,32,57]⟩
 | 2=>⟨#[106,111,105,110,32,48,32,53,48,32,53,32,49,48,48]⟩
 | 3=>⟨#[116,97,107,101,32,48,32,48,32,48]⟩
 | 4=>⟨#[107,101,121,32,55,32,49,32,57]⟩
 | 5=>⟨#[116,117,114,110,32,49]⟩
 | _=>⟨#[119,114,111,116,101,32,48]⟩
def PC:Nat->List ByteArray
 | 0=>[⟨#[114,111,111,109]⟩,⟨#[50]⟩,⟨#[50]⟩,⟨#[49]⟩,⟨#[49]⟩,⟨#[50]⟩,⟨#[49]⟩]
 | 1=>[⟨#[112,117,98,108,105,115,104]⟩,⟨#[48]⟩,⟨#[55]⟩,⟨#[56]⟩,⟨#[57]⟩]
 | 2=>[⟨#[106,111,105,110]⟩,⟨#[48]⟩,⟨#[53,48]⟩,⟨#[53]⟩,⟨#[49,48,48]⟩]
 | 3=>[⟨#[116,97,107,101]⟩,⟨#[48]⟩,⟨#[48]⟩,⟨#[48]⟩]
 | 4=>[⟨#[107,101,121]⟩,⟨#[55]⟩,⟨#[49]⟩,⟨#[57]⟩]
 | 5=>[⟨#[116,117,114,110]⟩,⟨#[49]⟩]
 | _=>[⟨#[119,114,111,116,101]⟩,⟨#[48]⟩]
def PJ:Nat->List UInt8
 | 0=>[111,107]
 | 1=>[111,107]
 | 2=>[111,107]
 | 3=>[111,107]
 | 4=>[111,107]
 | 5=>[111,107,32,53]
 | _=>[111,107,32,48,58,53,58,49,48,48]
def scR:Nat->Option RmS
 | 0=>ϋ
 | 1=>ϊ tp0
 | 2=>ϊ tp1
 | 3=>ϊ tp2
 | 4=>ϊ tp3
 | 5=>ϊ tp4
 | 6=>ϊ tp5
 | _=>ϊ tp5
def Qk (j:Nat):List UInt8:=(List.range j).flatMap λk=>PJ k++[10]
def Wb (j:Nat):Qk (j+1)=Qk j++PJ j++[10]:=by
 unfold Qk;rw[T3,P4];simp
def Dd: ∀j,j<7->(Qk j).length<=100/\(PJ j).length<=20:=by decide
def My: ∀j,j<7->Qp (Ha j) (PC j)
 | 0,_=>MK
 | 1,_=>MJ
 | 2,_=>MH
 | 3,_=>MG
 | 4,_=>ME
 | 5,_=>MC
 | 6,_=>Mz
def CC: ∀j,j<7->0<(PC j).length:=by decide
def MP {N:World} (O:Lib.TabIs prog N uG .u64 Lib.pow10Tab): ∀j,j<7-> ∀(F:List Nat) (w:World) (c J cap:Nat),Pl N pb (scR j) F w->SlP 1 RTx w (δ (ϊ ⟨c,J,ϋ⟩) (PC j).length cap) (PC j)->
  Calls prog 101 #[γ pb,δ (ϊ ⟨c,J,ϋ⟩) (PC j).length cap] w λe w'=>e= .returned (.string ⟨(PJ j).toArray⟩)/\Pl N pb (scR (j+1)) F w'/\xl pb F w w'
 | 0,_=>λF w c J cap h G=>vP (more:=[]) h G OM Rr (by rw[ByteArray.toList_eq];decide) ζ (λF w g cap h H I d=>do0 h H I d)
 | 1,_=>λF w c J cap h G=>vP (more:=[]) h G OL Rq (by rw[ByteArray.toList_eq];decide) ζ (λF w g cap h H I d=>do1 h H I d)
 | 2,_=>λF w c J cap h G=>vP (more:=[]) h G OJ Rp (by rw[ByteArray.toList_eq];decide) ζ (λF w g cap h H I d=>do2 h H I d)
 | 3,_=>λF w c J cap h G=>vP (more:=[]) h G OI Ro (by rw[ByteArray.toList_eq];decide) ζ (λF w g cap h H I d=>do3 h H I d)
 | 4,_=>λF w c J cap h G=>vP (more:=[]) h G OH Rn (by rw[ByteArray.toList_eq];decide) ζ (λF w g cap h H I d=>do4 h H I d)
 | 5,_=>λF w c J cap h G=>vP (more:=[53]) h G OG Rm (by rw[ByteArray.toList_eq];decide) ζ (λF w g cap h H I d=>do5 h O d)
 | 6,_=>λF w c J cap h G=>vP (more:=[48,58,53,58,49,48,48]) h G OF Rl (by rw[ByteArray.toList_eq];decide) ζ (λF w g cap h H I d=>do6 h O d)
def Ef: ∀j,j<7->(scL.map Value.string).toArray[j]? =ϊ (.string (Ha j)):=by
 intro j d
 match j,d with
 | 0,_=>rfl
 | 1,_=>rfl
 | 2,_=>rfl
 | 3,_=>rfl
 | 4,_=>rfl
 | 5,_=>rfl
 | 6,_=>rfl
def scOut:List UInt8:=[111,107,10,111,107,10,111,107,10,111,107,10,111,107,10,111,107,32,53,10,111,107,32,48,58,53,58,49,48,48,10]
def Oc:Qk 7=scOut:=by decide
def OT {aY:Int} (w:World) (au:w.cell? ⟨ZT,0,ϋ⟩=ϊ (ι aY)) (aU:Lib.TabIs prog w uG .u64 Lib.pow10Tab):
  Calls prog 39 #[.string scT] w λe w'=>e= .returned (.tuple #[.string ⟨scOut.toArray⟩,ι 0])/\qh w w':=by
 have bB:(scT.size:Int)=84:=by decide
 have aS:ZT<w.heap.size:=(um au).2;obtain⟨W1,aq⟩:=ν (w.alloc (.cells #[π ϋ,()] 212));obtain⟨W2,ar⟩:=ν (W1.alloc (.cells #[π ϋ] 214));have ak:qh w W1:=by rw[<-aq];exact qh.alloc _ _
 have U:qh W1 W2:=by rw[<-ar];exact qh.alloc _ _
 have av:W1.heap.size=w.heap.size+1:=by rw[<-aq];simp
 have aT:W2.heap.size=w.heap.size+2:=by rw[<-ar];simp[av]
 have aG:=κ (λw' (m:qh w w')=>show w'.cell? ⟨ZT,0,ϋ⟩=ϊ (ι aY) from by rw[m.cells _ _ aS];exact au);have aj:=κ (Co scT ⟨#[10]⟩ W2 ζ (aG.o _ (ak.trans U)) ζ);rw[scS,scC] at aj;have bi:=κ aU;have aB:Hid (W2.heap[w.heap.size]? =ϊ (.cells #[π ϋ,()] 212 (0,0))):=κ (qj U (by rw[<-aq];exact qp _ _));have aC:Hid (W2.heap[W1.heap.size]? =ϊ (.cells #[π ϋ] 214 (0,0))):=κ (by rw[<-ar];exact qp _ _);have bl:=κ (ak.trans U);have aH:=κ av;have aI:=κ aT;clear au aU aS ak U av aT
 go_enter func39,ntmps39
 go_wp2_with ((go_at_call 98;(go_call aj.o as e J ⟨rfl,ac⟩;have al:Hid (qh W2 J):=κ (by rw[ac];exact qh.alloc _ _);have I:Hid (J.heap[W2.heap.size]? =ϊ (.cells (scL.map Value.string).toArray 9 (0,0))):=κ (by rw[ac];exact qp _ _);clear ac)))
 have bs:=aH.o;have bt:=aI.o;have bu:=qq I.o;have aP:Hid (∃G,W1.heap.size∉G/\W2.heap.size∉G/\Pl w W1.heap.size (scR 0) ([W1.heap.size,W2.heap.size]++G) J/\Bd w.heap.size G J w.heap.size (Qk 0)/\J.heap[W2.heap.size]? =ϊ (.cells (scL.map Value.string).toArray 9 (0,0))):=κ
  ⟨[w.heap.size],(by simp;omega),(by simp;omega),⟨η,λb d=>by simp at d;omega,bl.o.trans al.o,qj al.o aC.o⟩,⟨η,ϕ _,_,_,ϐ rfl,qj al.o aB.o,World.ownsRow_nil _ _ _ _,by simp[Value.ownBlock],λg h=>by cases h⟩,I.o⟩
 clear bs bt bu aj I aC aB
 go_loopw [15] (λaw wr=> ∃j:Nat,j<=7/\aw= ι j/\ ∃G,W1.heap.size∉G/\W2.heap.size∉G/\Pl w W1.heap.size (scR j) ([W1.heap.size,W2.heap.size]++G) wr/\Bd w.heap.size G wr w.heap.size (Qk j)/\wr.heap[W2.heap.size]? =ϊ (.cells (scL.map Value.string).toArray 9 (0,0))) (λaw _=>7-(intOf aw).toNat)
 case atStart=>exact⟨0,τ,rfl,aP.o⟩
 case round=>
  obtain⟨j,bA,rfl,G,ay,n2,N,d,af⟩:=hrel;have Y:=κ ay;have am:=κ n2;have ai:=κ N;have bf:=κ d;have bg:=κ af;by_cases hlt:j<7
  ·have br:(j:Int)<7:=by omega
   have bx:wr.cell? ⟨W2.heap.size,j,ϋ⟩=ϊ (.string (Ha j)):=qi af j (Ef j hlt);have aK:=κ (AI (My j hlt) wr (aG.o wr N.2.2.1));have aF:=κ (MP (pb:=W1.heap.size) bi.o j hlt);obtain⟨bw,aW⟩:=ν (PC j);have aV:=CC j hlt;rw[aW] at aK aF aV;obtain⟨t1,t2⟩:=Dd j hlt;have bq:=κ (Wb j);have aE:=κ (⟨t1,t2⟩:(Qk j).length<=100/\(PJ j).length<=20);generalize Ha j=ln at *;clear ay n2 N d af aW t1 t2 aP
   go_wp2_with (first | (go_at_call 99;(go_call aK.o as e w1 ⟨⟨bv,cap,rfl,s1⟩,ax⟩;obtain⟨c,ag,cs,rfl,_,_,_,_⟩:=(show ∃b ag cs,bv=ϊ ⟨b,ag,ϋ⟩/\b<w1.heap.size/\cs.length=1/\(∀j,j<1->w1.cell? ⟨b,ag+0* 1+j,ϋ⟩=cs[j]?)/\RTx w1 cs bw[0] from (by obtain⟨bC,bz,e,_,ae,_⟩:=s1;injection e with e1 e2 ac;subst e1;exact ae 0 aV));have bd:=κ (ai.o.on ax);have bh:=κ (aF.o _ w1 c ag cap bd.o s1);have bp:=κ (ai.o.stay ax);clear s1 ax)) | (go_at_call 101;(go_call bh.o as e w2 ⟨rfl,ae,t2⟩;have ah:=κ ae;have ap:=κ (bp.o.trans t2);have bb:=κ (bf.o.more (F:=G) ⟨ap.o.1,λb d=>ap.o.2 b (ϔ _ d) (λe=>Y.o (e▸d))⟩);have bj:=κ (ap.o.blk η (λe=>by have:=aH.o;have:=aI.o;omega) bg.o);clear ae t2)) | (go_at_call 100;(go_call RV bb.o ⟨(PJ j).toArray⟩ (by have:=aE.o;simp[ByteArray.size];omega) as e bD ⟨rfl,a3,H,aZ,aQ⟩;have az:=κ a3;have an:=κ aZ;have I:=κ aQ;clear a3 aZ aQ)) | (go_at_call 102;(go_call OS I.o (by have:=aE.o;simp;omega) as e w4 ⟨rfl,a4,ad,ba,aR⟩;have aA:=κ a4;have ao:=κ ba;have bc:=κ aR;clear a4 ba aR)))
   have aa:W1.heap.size∉H::G:=λe=>by
    rcases ϫ.1 e with e | e
    ·rcases an.o with f | f
     ·exact Y.o (e▸f)
     ·have:=ah.o.lt W1.heap.size η;omega
    ·exact Y.o e
   have ab:W2.heap.size∉H::G:=λe=>by
    rcases ϫ.1 e with e | e
    ·rcases an.o with f | f
     ·exact am.o (e▸f)
     ·have:=ah.o.lt W2.heap.size η;omega
    ·exact am.o e
   have O:=ah.o.mutA (Fn:=[H]) az.o (λb d=>ϔ _ d) Y.o (λb d=>by
    simp at d;subst d
    exact an.o.elim (λf=>ϐ (ϔ _ f)) ϓ)
   have aL:=az.o.blk bj.o am.o
   have aD:=O.mutA (Fn:=[ad]) aA.o (λb d=>by
    rcases ϫ.1 d with e | e
    ·rw[e];simp
    ·exact ϔ _ (ϔ _ e)) aa (λb d=>by
    simp at d;subst d;rcases ao.o with f | f
    ·refine ϐ ?_;rcases ϫ.1 f with e | e
     ·rw[e];simp
     ·exact ϔ _ (ϔ _ e)
    ·exact ϓ f)
   have aM:=aA.o.blk aL ab;have aN:W1.heap.size∉ad::H::G:=λe=>by
    rcases ϫ.1 e with e | e
    ·rcases ao.o with f | f
     ·exact aa (e▸f)
     ·have:=O.lt W1.heap.size η;omega
    ·exact aa e
   have aO:W2.heap.size∉ad::H::G:=λe=>by
    rcases ϫ.1 e with e | e
    ·rcases ao.o with f | f
     ·exact ab (e▸f)
     ·have:=O.lt W2.heap.size η;omega
    ·exact ab e
   have be:=κ (aD.sub (F':=[W1.heap.size,W2.heap.size]++(ad::H::G)) (λb d=>by
    rcases ϥ.1 d with e | e
    ·exact ϔ _ (ϔ _ (ο _ e))
    ·rcases ϫ.1 e with e | e
     ·rw[e];simp
     ·rcases ϫ.1 e with e | e
      ·rw[e];simp
      ·exact ϔ _ (ϔ _ (ϔ _ e))) η)
   have bk:=κ aM;have bn:=κ aN;have bo:=κ aO;clear aa ab O aL aD aM aN aO;go_roundw
   case rel=>exact⟨j+1,τ,by go_num,_,bn.o,bo.o,be.o,by rw[bq.o];exact bc.o,bk.o⟩
   case measure=>simp[intOf];omega
  ·obtain rfl:j=7:=by omega
   have br: ¬((7:Nat):Int)<7:=by omega
   have aJ:=κ (IZ w.heap.size w.heap.size (Qk 7) wr d.is N.2.2.1.size);rw[Oc] at aJ;clear ay n2 N d af
   go_wp2_with ((go_at_call 103;(go_call aJ.o as e w5 ⟨rfl,aX⟩;have bm:=κ aX;clear aX)))
   go_ret2
   exact⟨rfl,Below.trans ai.o.2.2.1 bm.o⟩
def UW {N:Int} (w:World) (d:w.cell? ⟨ZT,0,ϋ⟩=ϊ (ι N)) (G:Lib.TabIs prog w uG .u64 Lib.pow10Tab):
  Calls prog 8 #[] w λe w'=>e= .returned (μ ό)/\qh w w':=by
 have I:Hid (Calls prog 39 #[.string ⟨#[114,111,111,109,32,50,32,50,32,49,32,49,32,50,32,49,10,112,117,98,108,105,115,104,32,48,32,55,32,56,32,57,10,106,111,105,110,32,48,32,53,48,32,53,32,49,48,48,10,116,97,107,101,32,48,32,48,32,48,10,107,101,121,32,55,32,49,32,57,10,116,117,114,110,32,49,10,119,114,111,116,101,32,48]⟩] w λe w'=>e= .returned (.tuple #[.string ⟨#[111,107,10,111,107,10,111,107,10,111,107,10,111,107,10,111,107,32,53,10,111,107,32,48,58,53,58,49,48,48,10]⟩,ι 0])/\qh w w'):=κ (OT w d G);clear d G
 go_enter func8,ntmps8
 go_wp2_with ((go_at_call 39;(go_call I.o as e w5 ⟨rfl,H⟩;have J:=κ H;clear H)))
 go_ret;exact⟨rfl,J.o⟩
def Ob {s':RmS} {n:Nat} (h:RmR G w R s F) (I:qT n s) (J:n<=1000) (x k:Int) {a:Int} (H:s.want x k=(s',a)):
  Calls prog 36 #[γ R,ι x,ι k] w λe w'=>e= .returned (ι a)/\RmR G w' R s' F/\qA F w w':=by
 obtain⟨r,rfl,h⟩:=h;refine(LU h (I.subs J) x k).mono ?_;rintro e w' ⟨rfl,d,t⟩;rw[H] at d ⊢;exact⟨rfl,⟨r,rfl,d⟩,t⟩
def Cc {sq sc:Int}:(pkB (kfP sq sc)).length<=400:=by
 have d:=Xw (kfP sq sc);have G:=((jZ _).1 (uZ sq sc)).2.2.2.2;rw[<-d] at G;omega
def Nl (w w1:World) (m:qh (w.alloc (.cells #[υ 16,υ 0] 5)) w1) (J:w.heap.size=g) {sq sc:Int} (H:U16 sq) (I:U32 sc):Calls prog 37 #[θ #[μ ύ,υ 0,φ sq,ω 0,ω sc,(),ύ,φ 0,(),δ (ϊ ⟨g,0,ϋ⟩) 2 2]] w1 λe w'=>(∃v,e= .returned (.tuple #[v,ι 0])/\SlI .u8 w' v (pkB (kfP sq sc)))/\qh w1 w':=by
 subst J;exact(Qb (kfP sq sc) _ _ _ w1 (PkS.keep ⟨SlI.nil _ _,SlI.nil _ _,SlI.lit .u8 w [16,0] 5 _ 2 w.heap.size η rfl rfl η⟩ m) (Gy H I) (uZ sq sc)).mono λe w' ⟨⟨v,d,G⟩,a3⟩=>⟨⟨v,d,SlI.of_owns G (by have:= @Cc sq sc;omega)⟩,a3⟩
def Fh {t:Nat} {cs:List Value} (h:w.heap[g]? =ϊ (.cells cs.toArray t (0,0))) (n:Nat):w.rangeAt g 0 (cs.take n):=λj v d=>jQ h j v (by
 rw[A8] at d;split at d
 ·exact d
 ·cases d)
def j5.src {W:Nat} {G H:Int->Int} (h:j5 w W B G H sf) (o:Og) {v:Int} (d:sf o=ϊ v):(Instr.lookup 47 (.map (ϊ B)) (θ #[ι o.1,ι o.2]) ό).run prog w= .ok (.tuple #[ω v,ό]) w:=by
 obtain⟨⟨cs,L,a,b,c,I,e,f⟩,g⟩:=h;have:=e.look Ji underlying47 (V3 w) o ό;rw[f o,d] at this;exact this
def j5.map {W:Nat} {d G:Int->Int} (h:j5 w W B d G sf):w.cell? ⟨W,90,ϋ⟩=ϊ (.map (ϊ B)):=by
 obtain⟨⟨cs,L,a,b,c,H,e,f⟩,g⟩:=h;exact qi a 90 c
def Ua {c:CfR} {n:Nat} (H:qT n s) (ad:n<=130) (I:gI c s) (N:yb c=ό) (ap:c.wait<=50) (M:List Og) (ac:M.length<=20) {x k sq src:Int} {o:Og} (af:ZU x k o (pkB (kfP sq src)) src s) (aa:U16 sq) (ab:U32 src) (ae:o.2=k):
  ∃s3 m,m<=10000/\qT m s3/\(∀(J w:World) (R:Nat) (F:List Nat),RmR J w R s F-> ∀v,SlP 2 RO w v M->Calls prog 22 #[γ R,θ #[ι c.room,ι c.hold,ι c.wait,ι c.space,ι c.retry,ι c.most],v] w λe w'=>e= .returned (μ ό)/\RmR J w' R s3 F/\qA F w w')/\
   ∃num P,s3.pks=P++[⟨o,num,kfP sq src⟩]/\ ∃l v,qm s3.lanes x=ϊ l/\qm s3.book (x,(P.length:Int))=ϊ v/\l.tgt=k/\(v=2∨v=3∨v=6∨v=1/\l.cur=k):=by
 obtain⟨⟨ai,aj⟩,⟨ak,al,Y,-⟩,-,-⟩:=vN N;obtain⟨s1,d⟩: ∃x,s.picks ό (zi s.workers M c.room.toNat)=x:=⟨_,rfl⟩;obtain⟨s3,G⟩: ∃x,(s1.tickN c.wait.toNat).picks ό (zi s.workers M (4* c.room.toNat+9* c.hold.toNat))=x:=⟨_,rfl⟩;have e:=I.cfg;obtain⟨ag,-⟩:=JZ H I M (s1:=s1) (s3:=s3) (by rw[e];exact d) (by rw[e];exact G);have ao:=Vg s;have O:=vB ό (zi s.workers M c.room.toNat) H;rw[d] at O;have U:=vB ό (zi s.workers M (4* c.room.toNat+9* c.hold.toNat)) (kS O c.wait.toNat);rw[G,vD,vD] at U;have am:c.room.toNat* (M.length+s.workers.length)<=8* 40:=M2 τ τ;have an:(4* c.room.toNat+9* c.hold.toNat)* (M.length+s.workers.length)<=104* 40:=M2 τ τ;exact⟨s3,_,τ,U,λJ w R F h v ah=>FA h H ad (P5 τ).symm (P5 τ).symm (P5 Y).symm N τ v M ah ac d rfl G ag,Wl H I af aa ab ae M (s1:=s1) (s3:=s3) (by rw[e];exact d) (by rw[e];exact G)⟩
def Z8 (c:CfR) (ad:Option Addr) (n cap:Nat) (ae aa sq:Int) (os:Option Addr) (ac cs:Nat) (w:World) (d:w.cell? ⟨ZT,0,ϋ⟩=ϊ (ι ab)) (I:Lib.TabIs prog w uG .u64 Lib.pow10Tab) (h:yb c=ύ):
  Calls prog 7 #[θ #[ι c.room,ι c.hold,ι c.wait,ι c.space,ι c.retry,ι c.most],δ ad n cap,υ ae,υ aa,φ sq,δ os ac cs] w λe w'=>e= .returned (μ ό)/\qh w w':=by
 have O:=κ (Le c h);have N:=κ (λw' (m:qh w w')=>UW w' (by rw[m.cells _ _ (um d).2];exact d) (vO I m));clear h d I
 go_enter func7,ntmps7
 go_wp2_with (first | (go_at_call 8;(go_call N.o _ Z0 as e w1 ⟨rfl,G⟩;have af:=κ (λw' (m:qh w1 w')=>cfq c (G.trans m));obtain⟨H,ag,ah,ai,aj,ak,al⟩:=cfq c G;have U:=κ H;clear G H)) | (go_at_call 9;(go_call O.o _ as e w2 ⟨rfl,J⟩;have Y:Hid (qh w w2):=κ (U.o.trans J);clear J)))
 go_ret;exact⟨rfl,Y.o⟩
def Xq (c:CfR) (v:Value) (l:List A22) (am ak sq:Int) (os:Option Addr) (N cs:Nat) (w:World) {al:Int} (J:w.cell? ⟨ZT,0,ϋ⟩=ϊ (ι al)) (ac:Lib.TabIs prog w uG .u64 Lib.pow10Tab) (h:yb c=ό) (O:SlP 14 Y8 w v l) (I:kh l=ό∨20<N∨50<c.wait):
  Calls prog 7 #[θ #[ι c.room,ι c.hold,ι c.wait,ι c.space,ι c.retry,ι c.most],v,υ am,υ ak,φ sq,δ os N cs] w λe w'=>e= .returned (μ ό)/\qh w w':=by
 have ag:=κ (Bv c h);have U:=κ (λw1 (d:qh w w1)=>Pt v l w1 (O.keep KD d));have af:=κ (λw' (m:qh w w')=>UW w' (by rw[m.cells _ _ (um J).2];exact J) (vO ac m));obtain⟨q,aj⟩:=ν (kh l);rw[aj] at U I;obtain⟨aq,cap,rfl,_⟩:=UY O;by_cases hns:(20:Int)<(N:Int)<;>by_cases hwt:(50:Int)<c.wait<;>cases q
 all_goals try exact ϧ I (by simp;omega)
 all_goals
  clear h O J ac I
  go_enter func7,ntmps7
  go_wp2_with (first | (go_at_call 8;(go_call af.o _ Z0 as e w1 ⟨rfl,d⟩;have ah:=κ (λw' (m:qh w1 w')=>cfq c (d.trans m));obtain⟨aa,ar,au,av,aw,ax,ay⟩:=cfq c d;have Y:=κ aa;clear d aa)) | (go_at_call 9;(go_call ag.o _ as e w2 ⟨R,rfl,ab,ad⟩;have H:Hid (qh w1 w2):=κ ad;have ae:=κ ab;clear ab ad)) | (go_at_call 10;(go_call U.o _ (Y.o.trans H.o) as e an ⟨rfl,G⟩;have ao:=κ (ae.o.on G);have ai:Hid (qh w an):=κ (Y.o.trans (H.o.trans G));obtain⟨-,-,-,az,-⟩:=ah.o _ (H.o.trans G);have ap:=κ (H.o.trans G);clear G)))
  go_ret;exact⟨rfl,ai.o⟩
def ZO (c:CfR) (v:Value) (l:List A22) (O N sq:Int) (os:Option Addr) (cs:Nat) (M:List Og) (w:World) {dz:Int} (aX:w.cell? ⟨ZT,0,ϋ⟩=ϊ (ι dz)) (ak:Lib.TabIs prog w uG .u64 Lib.pow10Tab) (h:yb c=ό) (an:SlP 14 Y8 w v l) (aW:kh l=ύ) (cv:SlP 2 RO w (δ os M.length cs) M) (dt:M.length<=20) (dU: ¬(50:Int)<c.wait) (bL:0<=O/\O<=255) (ah:0<=N/\N<=255) (bN:U16 sq):
  Calls prog 7 #[θ #[ι c.room,ι c.hold,ι c.wait,ι c.space,ι c.retry,ι c.most],v,υ O,υ N,φ sq,δ os M.length cs] w λe w'=>e= .returned (μ ό)/\qh w w':=by
 have cP:=κ (Bv c h);have bx:=κ (SwI.start h);have bp:=κ (λw1 (am:qh w w1)=>Pt v l w1 (an.keep KD am));rw[aW] at bp;have cG:=κ (λw' (m:qh w w')=>UW w' (by rw[m.cells _ _ (um aX).2];exact aX) (vO ak m));have cT:=κ cv;have cI:=κ h;obtain⟨dX,cap,rfl,dR,bV⟩:=UY an;have bn:=κ bV;have aK:=κ (Fe aW);have dQ:l.length<=120:=aK.o.1;have dS: ¬(20:Int)<(M.length:Int):=by omega
 have cZ:=κ (show (0<=O/\O<=255)/\(0<=N/\N<=255)/\U16 sq from ⟨bL,ah,bN⟩);clear h an aW bV aX ak cv bL ah bN
 go_enter func7,ntmps7
 go_wp2_with (first | (go_at_call 8;(go_call cG.o _ Z0 as e w1 ⟨rfl,am⟩;have bt:=κ (λw' (m:qh w1 w')=>cfq c (am.trans m));obtain⟨bB,dZ,ea,eb,ec,be,cr⟩:=cfq c am;have aa:=κ bB;clear am bB)) | (go_at_call 9;(go_call cP.o _ as e w2 ⟨R,rfl,ah,cp⟩;have av:Hid (qh w1 w2):=κ cp;have bh:=κ ah;clear ah cp)) | (go_at_call 10;(go_call bp.o _ (aa.o.trans av.o) as e dB ⟨rfl,ae⟩;have bi:=κ (bh.o.on ae);have dG:Hid (qh w dB):=κ (aa.o.trans (av.o.trans ae));obtain⟨-,-,-,dA,-⟩:=bt.o _ (av.o.trans ae);have au:=κ (av.o.trans ae);clear ae)) | (go_at_call 11;(go_call Il _ as e w4 ⟨W,B,rfl,du,ds,be,bc⟩;have bj:=κ (bi.o.adds (Fn:=[W,B]) bc (λb J=>by simp at J;omega));have bF:=κ be;have aM:=κ (au.o.trans bc);clear du ds be bc)))
 go_loopw [62] (λi wr=> ∃j:Nat,j<=l.length/\i= ι j/\ ∃s aD,RmR w1 wr R s [W,B]/\SwI c j s/\j5 wr W B aD (zh s) (λo=>qm s.tab.s o)) (λi _=>l.length-(intOf i).toNat)
 case atStart=>exact⟨0,τ,rfl,_,_,bj.o,bx.o,bF.o.congr (λ_ _=>rfl) (λ_=>rfl)⟩
 case round=>
  obtain⟨j,dP,rfl,s,aD,ch,bY,cg⟩:=hrel;have Y:=κ ch;have d:=κ bY;have aL:=κ cg;clear ch bY cg bh bi bj bx bF dA;by_cases hlt:j<l.length
  ·obtain⟨b,cq,H,G,rfl,J,ak,ci,cc,ce,cd,ab⟩:=bn.o j hlt;have bw:=κ (ak wr (aa.o.trans Y.o.more));have aJ:=κ (aK.o.2 j hlt);have cV:=κ (ci.keep ((aa.o.trans Y.o.more).al (.cells #[ι (l.getD j xP).act,ι (l.getD j xP).sub,ι (l.getD j xP).pub,ι (l.getD j xP).layer,δ H (l.getD j xP).b.length G,ι (l.getD j xP).w.1,ι (l.getD j xP).w.2,μ (l.getD j xP).acc,ω (l.getD j xP).own,ω (l.getD j xP).stamp,φ (l.getD j xP).seq,ω (l.getD j xP).s0,ω (l.getD j xP).s1,ω (l.getD j xP).s2] 42)));have aI:=κ cc;have cY:=κ ce;have cS:=κ cd;have aq:=κ ab;have dv:(j:Int)<(l.length:Int):=by omega
   clear ak ci cc ce cd ab J;generalize l.getD j xP=x at *;have bu:=κ (Y.o.adds (Fn:=[wr.heap.size]) (qh.alloc wr (.cells #[ι x.act,ι x.sub,ι x.pub,ι x.layer,δ H x.b.length G,ι x.w.1,ι x.w.2,x.acc,ω x.own,ω x.stamp,φ x.seq,ω x.s0,ω x.s1,ω x.s2] 42)) (λb J=>by simp at J;have:=World.size_alloc wr (.cells #[ι x.act,ι x.sub,ι x.pub,ι x.layer,δ H x.b.length G,ι x.w.1,ι x.w.2,x.acc,ω x.own,ω x.stamp,φ x.seq,ω x.s0,ω x.s1,ω x.s2] 42);omega));have bz:=κ (aL.o.more (qh.alloc wr (.cells #[ι x.act,ι x.sub,ι x.pub,ι x.layer,δ H x.b.length G,ι x.w.1,ι x.w.2,x.acc,ω x.own,ω x.stamp,φ x.seq,ω x.s0,ω x.s1,ω x.s2] 42)));have bf:=κ (qp wr (.cells #[ι x.act,ι x.sub,ι x.pub,ι x.layer,δ H x.b.length G,ι x.w.1,ι x.w.2,x.acc,ω x.own,ω x.stamp,φ x.seq,ω x.s0,ω x.s1,ω x.s2] 42));have dp:=β0 bf.o;have bm:=κ (RN bu.o d.o.ok τ x H G cV.o aI.o aJ.o cS.o cY.o);have bo:=κ (Cg d.o.ok Y.o.tkeys x aI.o aJ.o aq.o);by_cases h8:x.act=8
   ·have bv:=bu.o;have bA:=bz.o;rw[h8] at bv dp bA
    go_wp2_with (refine wpList_load_mid rfl 42 (.tmp 64) rfl b (cq+j* 14) rfl [ι x.act,ι x.sub,ι x.pub,ι x.layer,δ H x.b.length G,ι x.w.1,ι x.w.2,x.acc,ω x.own,ω x.stamp,φ x.seq,ω x.s0,ω x.s1,ω x.s2] _ bw.o underlying42 rfl ξ ?_)
    go_roundw
    case rel=>exact⟨j+1,τ,by go_num,s,aD,bv.sub η,d.o.up,bA⟩
    case measure=>simp[intOf];omega
   ·have bl:=κ (d.o.act Y.o.tkeys x aI.o aJ.o aq.o h8);have bq:=κ (λ(w5:World) (ax:RmR w1 w5 R (doR s x).1 [wr.heap.size,W,B]) (cr:j5 w5 W B aD (zh s) (λo=>qm s.tab.s o))=>Ov x ax η η cr d.o.ok Y.o.tkeys bo.o H G);have br:=κ (λo=>(ES s x o).symm);generalize doR s x=sr at *;obtain⟨s2,dK,dJ⟩:=sr;simp only at bm bq bl bo br
    go_wp2_with (first | (refine wpList_load_mid rfl 42 (.tmp 64) rfl b (cq+j* 14) rfl [ι x.act,ι x.sub,ι x.pub,ι x.layer,δ H x.b.length G,ι x.w.1,ι x.w.2,x.acc,ω x.own,ω x.stamp,φ x.seq,ω x.s0,ω x.s1,ω x.s2] _ bw.o underlying42 rfl ξ ?_) | (refine wpList_load_mid rfl 42 (.tmp 17) rfl wr.heap.size 0 rfl [ι x.act,ι x.sub,ι x.pub,ι x.layer,δ H x.b.length G,ι x.w.1,ι x.w.2,x.acc,ω x.own,ω x.stamp,φ x.seq,ω x.s0,ω x.s1,ω x.s2] _ (jQ cy.o) underlying42 rfl ξ ?_) | (go_at_call 12;(go_call bm.o as e w5 ⟨rfl,ax,t5⟩;have cB:=κ ax;have dj:=κ (bz.o.stay t5 η η);have cy:=κ (t5.blk η bf.o);clear ax t5)) | (go_at_call 13;(go_call bq.o _ cB.o dj.o as e w6 ⟨rfl,ct,bO,dm⟩;have cC:=κ bO;have dk:=κ ct;clear ct bO dm)))
    go_roundw
    case rel=>exact⟨j+1,τ,by go_num,s2,_,cC.o.sub η,bl.o,dk.o.congr (λ_ _=>rfl) br.o⟩
    case measure=>simp[intOf];omega
  ·obtain rfl:j=l.length:=by omega
   have dv: ¬(l.length:Int)<(l.length:Int):=by omega
   clear bn aK;obtain⟨⟨dH,dI⟩,⟨dV,dW⟩,aj⟩:=cZ.o;have ba:0<=O%6/\O%6<6:=by omega
   have dw:0<=N%3/\N%3<3:=by omega
   go_upto_region 15 with fail
   generalize O%6=x at *;generalize N%3=k at *;obtain⟨X,rfl⟩:=Θ ba.1;have bR:X<6:=by omega
   have dx:je k=ό:=Ϩ dw;have ar:=κ (Ob Y.o d.o.ok τ (X:Int) k (s':=(s.want (X:Int) k).1) (a:=(s.want (X:Int) k).2) rfl);by_cases hw0:(s.want (X:Int) k).2=0
   ·obtain⟨src,ab,aC,bS,bZ,bT,cf⟩:=Wj d.o (x:=(X:Int)) ba hw0 aj;have aV:=(d.o.ok.want (X:Int) k).num.lost;obtain⟨s3,ae,cb,aB,bU,num,P,aZ,ln,dM,ca,bX,cj,bW⟩:=Ua bZ τ bT cI.o τ M dt cf aj aC rfl;have bP:=λ(w':World) (v:Value) (F:List Nat) (h:RmR w1 w' R (s.want (X:Int) k).1 F) (an:SlI .u8 w' v (pkB (kfP sq src)))=>NP h (pkB (kfP sq src)) v an (UT (Gy aj aC)) (by have:= @Cc sq src;omega) ⟨aV.1,by have:=aV.2;omega⟩ (s':=((s.want (X:Int) k).1.arrive (pkB (kfP sq src))).1) (a:=0) (R5 rfl bS)
    rw[hw0] at ar;generalize (s.want (X:Int) k).1=s1 at *;generalize (s1.arrive (pkB (kfP sq src))).1=s2 at *;have aU:s3.pks[P.length]? =ϊ ⟨(zh s (X:Int),k),num,kfP sq src⟩:=by rw[aZ];simp
    obtain⟨pb,aY⟩:=ν (zh s (X:Int));rw[aY] at aU ab;have cQ:=κ aY;clear aY;have ck:(s3.pks.length:Int)=(P.length:Int)+1:=by rw[aZ,Ϗ,B4];rfl
    have dN:(P.length:Int)<=10000:=by have:=aB.num.pks;omega
    have cF:=κ bP;have cJ:=κ bU;have bk:=κ (λ(w':World) (F:List Nat) (h:RmR w1 w' R s3 F)=>RU h aB);rw[ck] at bk;have cR:Hid (∀w' (F:List Nat),RmR w1 w' R s3 F->Calls prog 15 #[γ R,ι (P.length:Int)] w' λe w''=> ∃os af ag ad ke ac,e= .returned (.tuple #[θ #[ι pb,ι k,ι num,ύ,υ 0,φ sq,ω 0,ω src,δ os 0 ad,ύ,φ 0,δ af 0 ke,δ ag 2 ac],ό])/\qh w' w''):=κ (λw' F h=>(Rz h aB cb aU).mono λe w'' ⟨os,af,ag,ad,ke,ac,dq,_,m⟩=>⟨os,af,ag,ad,ke,ac,dq,m⟩);have cM:=κ bX;have cO:Hid (s3.ln (X:Int)=ln):=κ (by unfold RmS.ln;rw[ca];rfl);have cW:=κ aj;have cU:=κ aC;have aq:=κ ab;have cL:=κ bW;have cX:=κ cj;clear bP bU cb aB bX ca aj aC ab bW cj aU aZ ck aV bZ bT cf bS hw0 d
    go_upto_region 17 with ((go_at_call 36;(go_call ar.o as e U ⟨rfl,ai,ao⟩;have aH:=κ ai;have bG:=κ (aL.o.stay ao η η);clear ai ao)))
    obtain⟨aS,-⟩:=bG.o.pub X bR;rw[cQ.o] at aS;obtain⟨I,aA⟩:=ν (U.alloc (.cells #[ι pb,ι k] 58));have bD:Hid (qh U I):=κ (by rw[<-aA];exact qh.alloc _ _);have aP:Hid (I.heap[U.heap.size]? =ϊ (.cells #[ι pb,ι k] 58 (0,0))):=κ (by rw[<-aA];exact qp U _);have cD:=κ (aH.o.adds (Fn:=[U.heap.size]) bD.o (λb J=>by simp at J;subst J;exact⟨ϕ _,qq aP.o⟩));have bH:=κ (bG.o.more bD.o)
    go_upto_region 18 with ((try rw[aA]);fail)
    clear aA aS ar;have da: ∀z:qu I,z.w'.cell? ⟨W,90,ϋ⟩=ϊ (.map (ϊ B)):=λz=>(bH.o.more z.h).map
    have cz: ∀z:qu I,(Instr.lookup 47 (.map (ϊ B)) (θ #[ι pb,ι k]) ό).run prog z.w'= .ok (.tuple #[ω src,ό]) z.w':=λz=>(bH.o.more z.h).src (pb,k) aq.o
    refine Qn I 11 11 [] ?_
    refine Qq4 ?_
    refine jg rfl rfl (qo ρ) 58 (.tmp 22) rfl U.heap.size 0 rfl [ι pb,ι k] _ (λw' dy=>by obtain⟨z,rfl⟩:=dy;exact jQ (qj z.h aP.o)) underlying58 rfl ξ ?_;intro K bQ;go_simp;refine bQ _ ?_;clear bQ K
    refine Qq6 ?_
    refine qD ?_;clear da cz;have cH:=κ (λw9 m=>Nl (I.drewN 1) w9 m (g:=I.heap.size) rfl cW.o cU.o)
    go_upto_region 22 with (first | (go_at_call 37;(go_call cH.o _ (qh.refl _) as e w9 ⟨⟨vb,rfl,cu⟩,bd⟩;have dl:=κ cu;have cE:=κ (cD.o.on ((qh.drewN I 1).trans (Z0.trans bd)));have dh:=κ (qj ((qh.drewN I 1).trans (Z0.trans bd)) aP.o);clear cu bd)) | (go_at_call 33;(go_call cF.o _ _ _ cE.o dl.o as e w10 ⟨rfl,aT,cw⟩;have bg:=κ aT;have dd:=κ (cw.blk η dh.o);obtain⟨-,z0,dC,dD,z3,z4,z5⟩:=bt.o _ aT.more;clear aT cw)) | (go_at_call 22;(go_call cJ.o _ _ _ _ bg.o _ (cT.o.keep Vf (aa.o.trans bg.o.more)) as e ed ⟨rfl,bM,cx⟩;have aF:=κ bM;have de:=κ (cx.blk η dd.o);clear bM cx)))
    clear z0 dC dD z3 z4 z5;have dF:=λa0 bJ bK a3 a4 w=>RM a0 bJ bK a3 a4 w
    go_upto_region 24 with (first | (go_at_call 19;(go_call bk.o _ _ aF.o as e ee ⟨bJ,bK,a3,a4,rfl,cl⟩;have bC:=κ cl;clear cl)) | (go_at_call 15;(go_call cR.o _ _ (aF.o.on bC.o) as e ap ⟨os,af,ag,ad,ke,ac,rfl,cm⟩;have au:=κ (bC.o.trans cm);clear cm)))
    obtain⟨bI,ay⟩:=ν (ap.alloc (.cells #[ι pb,ι k,ι num,ύ,υ 0,φ sq,ω 0,ω src,δ os 0 ad,ύ,φ 0,δ af 0 ke,δ ag 2 ac] 65));have aM:Hid (qh ap bI):=κ (by rw[<-ay];exact qh.alloc _ _);have di:Hid (bI.heap[ap.heap.size]? =ϊ (.cells #[ι pb,ι k,ι num,ύ,υ 0,φ sq,ω 0,ω src,δ os 0 ad,ύ,φ 0,δ af 0 ke,δ ag 2 ac] 65 (0,0))):=κ (by rw[<-ay];exact qp ap _);have aG:=κ (aF.o.on (au.o.trans aM.o));have df:=κ (qj (au.o.trans aM.o) de.o)
    (try rw[ay])
    clear ay;obtain⟨Bk,dn,hF⟩:=OO aG.o (X:Int) (P.length:Int) cM.o;have cK:=κ hF;clear hF
    go_upto_region 25 with ((go_at_call 20;(go_call cK.o as e ef ⟨rfl,bb⟩;have cA:=κ (aG.o.on bb);have db:=κ bb;clear bb)))
    have cN:=κ (LG cA.o (X:Int) cO.o rfl);generalize (qm s3.lanes (X:Int)).isSome=tz at *
    go_upto_region 26 with ((go_at_call 24;(go_call cN.o as e aE ⟨rfl,cn⟩;have aN:=κ (db.o.trans cn);clear cn)))
    obtain⟨aR,az⟩:=ν ((aE.alloc (.cells #[ι ln.cur,ι ln.tgt] 103)).alloc (.cells #[ι (ln.A.length:Int),ι (ln.B.length:Int),ι (ln.C.length:Int)] 104));have aO:Hid (qh aE aR):=κ (by rw[<-az];exact Z0.al _);have aQ:Hid (aR.heap[aE.heap.size]? =ϊ (.cells #[ι ln.cur,ι ln.tgt] 103 (0,0))):=κ (by rw[<-az];exact qj Z0 (qp aE _));have bE:=κ (qj (aN.o.trans aO.o) di.o);have dg:=κ (qj (aN.o.trans aO.o) df.o);have aw:Hid (qh w aR):=κ (aa.o.trans (aG.o.more.trans (aN.o.trans aO.o)))
    (try rw[az])
    clear az dn;have dE:=λw=>EI pb k w
    have dY:=β5 bE.o
    go_upto_region 28 with (first | (refine wpList_load_mid rfl 58 (.tmp 172) rfl ap.heap.size 0 rfl [ι pb,ι k] _ (Fh bE.o 2) underlying58 rfl ξ ?_) | (refine wpList_load_mid rfl 58 (.tmp 22) rfl U.heap.size 0 rfl [ι pb,ι k] _ (jQ dg.o) underlying58 rfl ξ ?_))
    rcases cL.o with rfl | rfl | rfl | ⟨rfl,hcu⟩
    ·go_wp2;go_ret;exact⟨rfl,aw.o⟩
    ·go_wp2;go_ret;exact⟨rfl,aw.o⟩
    ·go_wp2;go_ret;exact⟨rfl,aw.o⟩
    ·rw[hcu,cX.o] at aQ;have s0:=β0 aQ.o;have s1:=β1 aQ.o;have bs:=κ (λw'=>yW k k w');simp only[decide_true,Bool.not_true] at bs
     go_wp2_with ((go_at_call 38;(go_call bs.o _ as e eg ⟨rfl,co⟩;have dc:=κ co;clear co)))
     go_ret;exact⟨rfl,aw.o.trans dc.o⟩
   ·have dT:=CE d.o.dr.closed d.o.ok.tb ba dx hw0;generalize (s.want (X:Int) k).2=er at *;have dO:(er != 0)=ό:=by simp[hw0]
    go_wp2_with ((go_at_call 36;(go_call ar.o as e U ⟨rfl,ai,ao⟩;have aH:=κ ai;obtain⟨aS,dL⟩:=(aL.o.stay ao η η).pub X bR;clear ai ao)))
    go_ret;exact⟨rfl,aa.o.trans aH.o.more⟩
def Z7 (cs:Array Value) (c:CfR) (v:Value) (l:List A22) (I H sq:Int) (O:Value) (M:List Og) (w:World) (d:w.cell? ⟨ZT,0,ϋ⟩=ϊ (ι ab)) (G:Lib.TabIs prog w uG .u64 Lib.pow10Tab) (ac:Me w cs.toList c) (J:SlP 14 Y8 w v l) (U:0<=I/\I<=255) (Y:0<=H/\H<=255) (aa:U16 sq) (N:SlP 2 RO w O M):
  Calls prog 7 #[θ cs,v,υ I,υ H,φ sq,O] w λe w'=>e= .returned (μ ό)/\qh w w':=by
 obtain rfl:cs= #[ι c.room,ι c.hold,ι c.wait,ι c.space,ι c.retry,ι c.most]:=Array.toList_inj.1 ac;obtain⟨os,ad,rfl,_⟩:=id N;cases hc:yb c with
 | false=>
  obtain⟨ae,cap,rfl,_⟩:=id J;exact Z8 c _ _ _ _ _ _ _ _ _ w d G hc
 | true=>
  by_cases hl:kh l=ό∨20<M.length∨50<c.wait
  ·exact Xq c v l _ _ _ _ _ _ w d G hc J hl
  ·exact ZO c v l _ _ _ _ _ M w d G hc J (by cases h:kh l<;>simp[h] at hl ⊢) N τ τ U Y aa
end Go.Proofs.YtlmllmonabafjaaGreatDoor
