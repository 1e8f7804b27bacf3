/- Contracts of the functions that the law reaches, and plain laws; no conditions but those written at each. -/
import Derived.Test.YtdgippmmaponfaaGreatMg2
import Derived.Deep.Cut
import Derived.Deep.CutRange
import Derived.Deep.CutBlock
import Derived.Laws.CopyRow
import Derived.Laws.Rows
import Derived.Laws.Tables
import Derived.Laws.MakeOwn
import Derived.Deep.MidRow
import Derived.Lib.SliceRun
namespace Go.Proofs.YtdgippmmaponfaaGreat
open Go.Value renaming bool->μ,slice->δ,pointer->π,agg->θ
open Go.IntKind renaming i64->ι,u8->υ,u16->φ,u32->ω,i32->χ,u64->ψ
open _root_.Go.Proofs.Tryz
set_option linter.unusedSimpArgs false
set_option maxHeartbeats 8000000
set_option linter.unusedVariables false
open Go.RowKit
set_option maxRecDepth 100000
def WrX (w0 w:World) (W B:Nat) (o:Obj) (l:List Int):Prop:= ∃v,WrK w0 w W v l B o
theorem WrX.start {w w2:World} {o:Obj} (m:qa (w.alloc o) w2):WrK w (w2.alloc (.cells #[δ none 0 0] 131)) w2.heap.size (δ none 0 0) [] w.heap.size o:=by
 have d:w.heap.size<w2.heap.size:=qn (qc m (qj w o));exact⟨wR w2,((qa.alloc w o).trans m).al _,Nat.le_of_lt d,qs (qc m (qj w o)) _,τ,by simp[Value.ownBlock]⟩
theorem WrX.cell {d w:World} {W B:Nat} {cs:Array Value} {t:TypeId} {l:List Int} (h:WrX d w W B (.cells cs t (0,0)) l) (i:Nat) {v:Value} (hi:cs[i]? =some v):w.cell? ⟨B,i,none⟩=some v:=by
 obtain⟨v',k⟩:=h;exact qb k.keep i hi
theorem WrX.more {d w:World} {W B:Nat} {o:Obj} {l:List Int} (h:WrX d w W B o l):qa d w:=by
 obtain⟨v',k⟩:=h;exact k.more
theorem ju (n s:Int):(qy n s).length<=8:=by
 unfold qy;split
 ·rw[zP];omega
 ·simp
theorem uj.of_right {p:Pk} (h:jJ p=true):uj p/\p.ss.length<=15/\p.ex.length<=200/\p.pl.length<=200:=by
 obtain⟨M,N,G,J,d⟩:=(yq p).1 h;unfold ww at d;have H:p.ex.length<=200:=by
  cases hh:p.has with
  | false=>rw[(G hh).2];simp
  | true=>rw[hh] at d;simp only[if_true] at d;omega
 have I:p.pl.length<=200:=by split at d<;>omega
 exact⟨⟨τ,τ,τ⟩,τ,H,I⟩
theorem gi (p:Pk) (az ax vp:Value) (w:World) (h:PkS w az ax vp p) (an:uf p) (aA:jJ p=true):
  Calls prog 13 #[(Γq p az ax vp)] w λe w'=>(∃v,e= .returned (.tuple #[v,ι 0])/\w'.ownsRow w.heap.size 5 1 v (pkB p).length ((pkB p).map (Value.int .u8)))/\qa w w':=by
 obtain⟨bZ,cu,cF,ch⟩:=uj.of_right aA;have aw:=κ h;have bN:=κ (gc p az ax vp (w.alloc (.cells (Γq p az ax vp) 55)) (h.keep (qa.alloc _ _)) bZ);have bR:=(yq p).1 aA;have bJ:=κ aA;obtain⟨⟨os,ar,rfl,_⟩,⟨aq,ke,rfl,bv⟩,⟨av,au,rfl,_⟩⟩:=h;clear bv;have t1:=an.ty;have t2:=an.sq;have t3:=an.st;have t4:=an.sc;have bw:=an.pr;have ca:=κ an.ss;obtain⟨cf,cr,bG,cE,_⟩:=bR;obtain⟨aa,aI,o2,aO⟩: ∃aa,(p.has=false->aa=128+(p.ss.length:Int))/\(p.has=true->aa=128+(p.ss.length:Int)+16)/\aa=CT p:=⟨_,λe=>by simp[CT,e],λe=>by simp[CT,e],rfl⟩;obtain⟨ab,aC,aB,bb⟩: ∃ab,(p.mr=false->ab=p.ty)/\(p.mr=true->ab=p.ty+128)/\ab=CN p:=⟨_,λe=>by simp[CN,e],λe=>by simp[CN,e],rfl⟩;have bx:0<=aa/\aa<=255:=by
  cases hh:p.has with
  | false=>rw[aI hh];omega
  | true=>rw[o2 hh];omega
 have bK:0<=ab/\ab<=255:=by
  cases hh:p.mr with
  | false=>rw[aC hh];omega
  | true=>rw[aB hh];omega
 have aK:pkB p=qy aa 1++qy ab 1++qy p.sq 2++qy p.st 4++qy p.sc 4++ssB p.ss++(if p.has then qy p.pr 2++qy ((p.ex.length:Int)/4) 2++p.ex else [])++p.pl:=by
  rw[aO,bb];rfl
 obtain⟨ao,aG,aE,aS⟩: ∃ao,(p.has=false->ao=[])/\(p.has=true->ao=qy p.pr 2++qy ((p.ex.length:Int)/4) 2++p.ex)/\ao=if p.has then qy p.pr 2++qy ((p.ex.length:Int)/4) 2++p.ex else []:=⟨if p.has then qy p.pr 2++qy ((p.ex.length:Int)/4) 2++p.ex else [],λe=>by simp[e],λe=>by simp[e],rfl⟩
 rw[<-aS] at aK;have cn:ao.length<=300:=by
  have:=ju p.pr 2;have:=ju ((p.ex.length:Int)/4) 2;cases hh:p.has with
  | false=>rw[aG hh];simp
  | true=>rw[aE hh];simp only[List.length_append];omega
 rw[aK];clear aA an aK aO bb aS;obtain⟨mr,ty,sq,st,sc,ss,has,pr,ex,pl⟩:=p;simp only at *;have bu:=κ aI;have bL:=κ o2;have bD:=κ aC;have bY:=κ aB;have bQ:=κ aG;have bS:=κ aE;have w1:IntKind.i64.wrap (128+(ss.length:Int))=128+(ss.length:Int):=IntWalk.i64_in _ τ;have bP:IntKind.u8.wrap (128+(ss.length:Int))=128+(ss.length:Int):=by
  show (128+(ss.length:Int))%256=_;omega
 obtain⟨s0,s1⟩:=t2;obtain⟨ct,cC⟩:=bx;obtain⟨ci,cA⟩:=bK;obtain⟨t0,t1⟩:=t1;obtain⟨a0,cy⟩:=t3;obtain⟨cl,cj⟩:=t4;obtain⟨cH,c1⟩:=bw;clear aI o2 aC aB aG aE bG
 go_enter func13,ntmps13
 go_upto_region 3 with (go_at_call 47;(go_call bN.o as e wr ⟨rfl,aH⟩;rw[bJ.o];have cb:=κ aH;have am:=κ (qc aH (qj w (.cells #[μ mr,υ ty,φ sq,ω st,ω sc,δ os ss.length ar,has,φ pr,δ aq ex.length ke,δ av pl.length au] 55)));clear aH;have H:=λn=>β0 (qr am.o n);have O:=λn=>β1 (qr am.o n);have I:=λn=>β2 (qr am.o n);have Y:=λn=>β3 (qr am.o n);have M:=λn=>β4 (qr am.o n);have J:=λn=>β5 (qr am.o n);have N:=λn=>β6 (qr am.o n);have d:=λn=>β7 (qr am.o n);have G:=λn=>β8 (qr am.o n);have U:=λn=>β9 (qr am.o n)))
 go_quiet (fail)
 clear w1 bP
 go_upto_if 21 with fail
 go_cut [4] from 20 (λbH ap=>bH= υ aa/\ap=wr.drewN nq)
 case first=>
  cases has with
  | false=>
   go_wp2;go_meet;exact⟨by rw[bu.o η],rfl⟩
  | true=>
   go_wp2;go_meet;exact⟨by rw[bL.o η],rfl⟩
 case rest=>
 obtain⟨rfl,rfl⟩:=hcut
 go_upto_if 26 with fail
 go_cut [5] from 24 (λbE ap=>bE= υ ab/\ap=wr.drewN nq)
 case first=>
  cases mr with
  | false=>
   go_wp2;go_meet;exact⟨by rw[bD.o η],rfl⟩
  | true=>
   go_wp2;go_meet;exact⟨by rw[bY.o η],rfl⟩
 case rest=>
 obtain⟨rfl,rfl⟩:=hcut;have bO:Hid (qa (w.alloc (.cells #[μ mr,υ ty,φ sq,ω st,ω sc,δ os ss.length ar,has,φ pr,δ aq ex.length ke,δ av pl.length au] 55)) (wr.drewN nq)):=κ (cb.o.dr nq);have aj:=κ (WrX.start bO.o);generalize wr.drewN nq=W3 at *;clear H O I Y M J N d G U;have H:=β0 aj.o.keep;have O:=β1 aj.o.keep;have I:=β2 aj.o.keep;have Y:=β3 aj.o.keep;have M:=β4 aj.o.keep;have J:=β5 aj.o.keep;have N:=β6 aj.o.keep;have d:=β7 aj.o.keep;have G:=β8 aj.o.keep;have U:=β9 aj.o.keep
 go_wp2_with first | (go_at_call 48;((with_reducible refine(wk aj.o.wr aa τ ζ).mono ?_);rintro e w10 ⟨rfl,bg⟩;obtain⟨v10,bj⟩:=aj.o.wrote bg;have ae:=κ bj;clear bj bg H O I Y M J N d G U;have H:=β0 ae.o.keep;have O:=β1 ae.o.keep;have I:=β2 ae.o.keep;have Y:=β3 ae.o.keep;have M:=β4 ae.o.keep;have J:=β5 ae.o.keep;have N:=β6 ae.o.keep;have d:=β7 ae.o.keep;have G:=β8 ae.o.keep;have U:=β9 ae.o.keep)) | (go_at_call 48;((with_reducible refine(wk ae.o.wr ab τ (by have:=ju aa 1;have:=ju ab 1;have:=ju sq 2;have:=ju st 4;have:=ju sc 4;simp only[List.length_append,List.length_nil];omega)).mono ?_);rintro e bI ⟨rfl,bp⟩;obtain⟨v11,aY⟩:=ae.o.wrote bp;have ad:=κ aY;clear aY bp H O I Y M J N d G U;have H:=β0 ad.o.keep;have O:=β1 ad.o.keep;have I:=β2 ad.o.keep;have Y:=β3 ad.o.keep;have M:=β4 ad.o.keep;have J:=β5 ad.o.keep;have N:=β6 ad.o.keep;have d:=β7 ad.o.keep;have G:=β8 ad.o.keep;have U:=β9 ad.o.keep)) | (go_at_call 49;(go_call kU ad.o.wr sq τ (by have:=ju aa 1;have:=ju ab 1;have:=ju sq 2;have:=ju st 4;have:=ju sc 4;simp only[List.length_append,List.length_nil];omega) as e bU ⟨rfl,bl⟩;obtain⟨v12,aR⟩:=ad.o.wrote bl;have ah:=κ aR;clear aR bl H O I Y M J N d G U;have H:=β0 ah.o.keep;have O:=β1 ah.o.keep;have I:=β2 ah.o.keep;have Y:=β3 ah.o.keep;have M:=β4 ah.o.keep;have J:=β5 ah.o.keep;have N:=β6 ah.o.keep;have d:=β7 ah.o.keep;have G:=β8 ah.o.keep;have U:=β9 ah.o.keep)) | (go_at_call 50;((with_reducible refine(uw ah.o.wr st τ (by have:=ju aa 1;have:=ju ab 1;have:=ju sq 2;have:=ju st 4;have:=ju sc 4;simp only[List.length_append,List.length_nil];omega)).mono ?_);rintro e bB ⟨rfl,ba⟩;obtain⟨v13,aL⟩:=ah.o.wrote ba;have ai:=κ aL;clear aL ba H O I Y M J N d G U;have H:=β0 ai.o.keep;have O:=β1 ai.o.keep;have I:=β2 ai.o.keep;have Y:=β3 ai.o.keep;have M:=β4 ai.o.keep;have J:=β5 ai.o.keep;have N:=β6 ai.o.keep;have d:=β7 ai.o.keep;have G:=β8 ai.o.keep;have U:=β9 ai.o.keep)) | (go_at_call 50;((with_reducible refine(uw ai.o.wr sc τ (by have:=ju aa 1;have:=ju ab 1;have:=ju sq 2;have:=ju st 4;have:=ju sc 4;simp only[List.length_append,List.length_nil];omega)).mono ?_);rintro e cx ⟨rfl,bc⟩;obtain⟨v14,bq⟩:=ai.o.wrote bc;have ak:=κ bq;clear bq bc H O I Y M J N d G U;have H:=β0 ak.o.keep;have O:=β1 ak.o.keep;have I:=β2 ak.o.keep;have Y:=β3 ak.o.keep;have M:=β4 ak.o.keep;have J:=β5 ak.o.keep;have N:=β6 ak.o.keep;have d:=β7 ak.o.keep;have G:=β8 ak.o.keep;have U:=β9 ak.o.keep))
 have cd:=κ (aw.o.s.keep ak.o.more);generalize aJ:([]++qy aa 1++qy ab 1++qy sq 2++qy st 4++qy sc 4)=PX at *;have cw:PX.length<=100:=by rw[<-aJ];exact(by have:=ju aa 1;have:=ju ab 1;have:=ju sq 2;have:=ju st 4;have:=ju sc 4;simp only[List.length_append,List.length_nil];omega)
 have bt:=κ aJ;clear aJ;clear aj ae ad ah ai
 go_loopw [48] (λi ap=> ∃k:Nat,k<=ss.length/\i= ι k/\WrX w ap W3.heap.size w.heap.size (.cells #[μ mr,υ ty,φ sq,ω st,ω sc,δ os ss.length ar,has,φ pr,δ aq ex.length ke,δ av pl.length au] 55) (PX++ssB (ss.take k))) (λi _=>ss.length-(intOf i).toNat)
 case atStart=>exact⟨0,τ,rfl,_,by simpa [ssB] using ak.o⟩
 case round=>
  obtain⟨k,an,rfl,ay⟩:=hrel;have ac:=κ ay;have bV:(PX++ssB (ss.take k)).length<=10000:=by rw[List.length_append,WE,List.length_take];omega
  by_cases hlt:k<ss.length
  ·obtain⟨ck,cG,bA,_,bs,_⟩:=aw.o.s.keep ay.more;cases bA;obtain⟨co,cc,rfl,cB,ce⟩:=bs k hlt;have cp:(k:Int)<(ss.length:Int):=by omega
   have aQ:ss.take (k+1)=ss.take k++[ss.getD k 0]:=by rw[List.take_succ_eq_append_getElem hlt];simp[hlt]
   have bm:PX++ssB (ss.take (k+1))=PX++ssB (ss.take k)++qy (ss.getD k 0) 4:=by rw[aQ,AP,List.append_assoc]
   have bz:=κ bm;have bX:=ca.o k;obtain⟨v7,aU⟩:=ay;have be:=κ aU;clear bs aQ bm aU;generalize ss.getD k 0=x at *;obtain⟨cq,cm⟩:=bX
   go_wp2_with (go_at_call 50;(go_call uw be.o.wr x τ τ as e w8 ⟨rfl,aZ⟩;obtain⟨v8,bi⟩:=be.o.wrote aZ;have bC:=κ bi;clear bi aZ))
   go_roundw
   case rel=>exact⟨k+1,τ,by go_num,v8,by rw[bz.o];exact bC.o⟩
   case measure=>simp[intOf];omega
  ·obtain rfl:k=ss.length:=by omega
   rw[List.take_length] at ac bV;clear ay;have H:=WrX.cell ac.o 0 (v:= μ mr) rfl;have O:=WrX.cell ac.o 1 (v:= υ ty) rfl;have I:=WrX.cell ac.o 2 (v:= φ sq) rfl;have Y:=WrX.cell ac.o 3 (v:= ω st) rfl;have M:=WrX.cell ac.o 4 (v:= ω sc) rfl;have J:=WrX.cell ac.o 5 (v:= δ os ss.length ar) rfl;have N:=WrX.cell ac.o 6 (v:= μ has) rfl;have d:=WrX.cell ac.o 7 (v:= φ pr) rfl;have G:=WrX.cell ac.o 8 (v:= δ aq ex.length ke) rfl;have U:=WrX.cell ac.o 9 (v:= δ av pl.length au) rfl;generalize aN:PX++ssB ss=PY at *;have bT:=κ aN;clear aN
   go_upto_if 56 with fail
   go_cut [] from 57 (λap=>WrX w ap W3.heap.size w.heap.size (.cells #[μ mr,υ ty,φ sq,ω st,ω sc,δ os ss.length ar,has,φ pr,δ aq ex.length ke,δ av pl.length au] 55) (PY++ao))
   case first=>
    cases has with
    | false=>
     have aF:=κ (bQ.o η);go_wp2;go_meet;rw[aF.o,List.append_nil];exact ac.o
    | true=>
     have aF:=κ (bS.o η);obtain⟨v9,aX⟩:=ac.o;have aM:=κ aX;have cv:((ex.length:Int)).tdiv 4=(ex.length:Int)/4:=Int.tdiv_eq_ediv_of_nonneg τ;clear aX
     go_wp2_with first | (go_at_call 49;((with_reducible refine(kU aM.o.wr pr τ τ).mono ?_);rintro e bI ⟨rfl,bk⟩;obtain⟨v11,aV⟩:=aM.o.wrote bk;have al:=κ aV;clear aV bk H O I Y M J N d G U;have H:=β0 al.o.keep;have O:=β1 al.o.keep;have I:=β2 al.o.keep;have Y:=β3 al.o.keep;have M:=β4 al.o.keep;have J:=β5 al.o.keep;have N:=β6 al.o.keep;have d:=β7 al.o.keep;have G:=β8 al.o.keep;have U:=β9 al.o.keep)) | (go_at_call 49;((with_reducible refine(kU al.o.wr ((ex.length:Int)/4) τ (by have:=ju pr 2;simp only[List.length_append] at *;omega)).mono ?_);rintro e bU ⟨rfl,aP⟩;obtain⟨v12,bf⟩:=al.o.wrote aP;have ag:=κ bf;clear bf aP H O I Y M J N d G U;have H:=β0 ag.o.keep;have O:=β1 ag.o.keep;have I:=β2 ag.o.keep;have Y:=β3 ag.o.keep;have M:=β4 ag.o.keep;have J:=β5 ag.o.keep;have N:=β6 ag.o.keep;have d:=β7 ag.o.keep;have G:=β8 ag.o.keep;have U:=β9 ag.o.keep)) | (go_at_call 51;(go_call uU ag.o.wr _ ex (aw.o.e.keep ag.o.more) (by have:=ju pr 2;have:=ju ((ex.length:Int)/4) 2;simp only[List.length_append] at *;omega) as e bB ⟨rfl,aT⟩;obtain⟨v13,br⟩:=ag.o.wrote aT;have bM:=κ br;clear br aT))
     go_meet;rw[aF.o];exact⟨v13,by have:=bM.o;simpa only[List.append_assoc] using this⟩
   case rest=>
    obtain⟨v14,bd⟩:=hcut;have af:=κ bd;clear bd ac H O I Y M J N d G U;have H:=β0 af.o.keep;have O:=β1 af.o.keep;have I:=β2 af.o.keep;have Y:=β3 af.o.keep;have M:=β4 af.o.keep;have J:=β5 af.o.keep;have N:=β6 af.o.keep;have d:=β7 af.o.keep;have G:=β8 af.o.keep;have U:=β9 af.o.keep;have cD:(PY++ao).length<=20000:=by rw[List.length_append];omega
    go_wp2_with first | (go_at_call 51;(go_call uU af.o.wr _ pl (aw.o.l.keep af.o.more) τ as e cz ⟨rfl,bh⟩;obtain⟨v15,bo⟩:=af.o.wrote bh;have aD:=κ bo;clear bo bh H O I Y M J N d G U)) | (go_at_call 52;(go_call wZ aD.o.wr (by rw[List.length_append];omega) as e cg ⟨v16,rfl,bn,aW⟩;have bW:=κ bn;have bF:=κ aW;clear bn aW))
    go_ret2
    refine⟨⟨_,rfl, ?_⟩,aD.o.more.trans bF.o⟩;have:=kq bW.o aD.o.more.size;rw[<-bT.o,<-bt.o] at this;exact this
theorem jY {w:World} {g e:Nat} {cur:Array Value} (h:w.heap[g]? =some (.cells cur e (0,0))) (cs:Array Value):(w.setRow g cs).heap[g]? =some (.cells cs e (0,0)):=setRow_heap w g cur cs e (0,0) h
theorem xb (w:World) (g:Nat) (cs:Array Value):qg (λk=>k=g) w (w.setRow g cs):=by
 refine⟨rfl,rfl,rfl,by simp[World.setRow],λb G d=> ?_⟩;unfold World.setRow;simp only;rw[Array.getElem?_modify,if_neg (λe=>d e.symm)]
theorem qS {w:World} {b g:Nat} {o:Obj} (h:w.heap[b]? =some o) (cs:Array Value) (d:b≠g):(w.setRow g cs).heap[b]? =some o:=(xb w g cs).blk h d
theorem qg.row {S:Nat->Prop} {a b:World} (h:qg S a b) {g:Nat} (d:S g) (cs:Array Value):qg S a (b.setRow g cs):=h.trans ((xb b g cs).mono λk e=>by rw[e];exact d)
theorem qg.rowNew {S:Nat->Prop} {a b:World} (h:qg S a b) {g:Nat} (G:a.heap.size<=g) (cs:Array Value):qg S a (b.setRow g cs):=by
 have k:=xb b g cs;exact⟨k.os.trans h.os,k.tape.trans h.tape,k.output.trans h.output,Nat.le_trans h.size k.size,λi hi d=>by rw[k.block i (Nat.lt_of_lt_of_le hi h.size) τ];exact h.block i hi d⟩
theorem qg.alc {S:Nat->Prop} {a b:World} (h:qg S a b) (o:Obj):qg S a (b.alloc o):=h.more (qa.alloc _ _)
theorem qg.grown {S:Nat->Prop} {a b c:World} (h:qg S a b) {v:Option Nat} (g:b.grownBy c v) (H: ∀k,v=some k->a.heap.size<=k):qg S a c:=
 ⟨g.os.trans h.os,g.tape.trans h.tape,g.output.trans h.output,Nat.le_trans h.size g.size,λk d G=>by rw[g.block k (Nat.lt_of_lt_of_le d h.size) (λe=>by have:=H k e.symm;omega)];exact h.block k d G⟩
theorem Wr {n:Nat}: ∀(css:List (List Value)) (i j:Nat),(∀c∈css,c.length=n)->i<css.length->j<n->css.flatten[i* n+j]? =(css.getD i [])[j]?
 | [],_,_,_,h,_=>absurd h η
 | c::css,0,j,hl,_,hj=>by
  have:=hl c η;rw[List.flatten_cons,Nat.zero_mul,Nat.zero_add,List.getElem?_append_left τ];rfl
 | c::css,i+1,j,hl,hi,hj=>by
  have d:=hl c η;rw[List.flatten_cons,List.getElem?_append_right (by rw[d,Nat.add_mul];omega),d,show (i+1)* n+j-n=i* n+j by rw[Nat.add_mul];omega];exact Wr css i j (λH G=>hl H (by simp[G])) (by simpa using hi) hj
theorem DN {n:Nat}: ∀(css:List (List Value)),(∀c∈css,c.length=n)->css.flatten.length=css.length* n
 | [],_=>by simp
 | c::css,h=>by
  rw[List.flatten_cons,List.length_append,DN css λG d=>h G (by simp[d]),h c η,List.length_cons,Nat.add_mul];omega
theorem Yq (z:Array Value) (k n:Nat) (G:z.size=k) (d:0<k):madeCells z (n* k)=(List.replicate n z.toList).flatten.toArray:=by
 apply Array.ext';apply List.ext_getElem?;intro j;have I: ∀c∈List.replicate n z.toList,c.length=k:=λc N=>by rw[List.eq_of_mem_replicate N];simpa using G
 by_cases hj:j<n* k
 ·have H:j/k<n:=by rw[Nat.div_lt_iff_lt_mul d];exact hj
  have M:j/k* k+j%k=j:=by rw[Nat.mul_comm];exact Nat.div_add_mod j k
  have J:j%k<z.size:=by rw[G];exact Nat.mod_lt _ d
  have:=Wr (n:=k) (List.replicate n z.toList) (j/k) (j%k) I (by simpa using H) (Nat.mod_lt _ d);rw[M] at this;show (madeCells z (n* k)).toList[j]? =(List.replicate n z.toList).flatten[j]?;rw[this];unfold madeCells;simp[hj,H,G,List.getElem?_replicate];rw[Array.getElem?_eq_getElem J,getElem!_pos z (j%k) J]
 ·have O:(madeCells z (n* k)).toList[j]? =none:=by rw[List.getElem?_eq_none_iff,Array.length_toList,size_madeCells];omega
  have U:(List.replicate n z.toList).flatten[j]? =none:=by rw[List.getElem?_eq_none_iff,DN _ I,List.length_replicate];omega
  rw[O];exact U.symm
def xQ (cur:List Value) (o:Nat) (vs:List Value):List Value:=cur.take o++vs++cur.drop (o+vs.length)
theorem JO {n:Nat}: ∀(css:List (List Value)) (k:Nat) (c:List Value),(∀d∈css,d.length=n)->c.length=n->k<css.length->xQ css.flatten (k* n) c=(css.set k c).flatten
 | [],_,_,_,_,h=>absurd h η
 | d::css,0,c,hl,hc,_=>by
  have H:=hl d η;unfold xQ;rw[Nat.zero_mul,List.take_zero,List.nil_append,Nat.zero_add,List.flatten_cons,List.drop_append_of_le_length τ,List.drop_eq_nil_of_le τ,List.nil_append,List.set_cons_zero,List.flatten_cons]
 | d::css,k+1,c,hl,hc,hk=>by
  have H:=hl d η;have G:=JO css k c (λe I=>hl e (by simp[I])) hc (by simpa using hk);unfold xQ at G ⊢;rw[List.set_cons_succ,List.flatten_cons,List.flatten_cons,<-G];have J:(k+1)* n=d.length+k* n:=by rw[H,Nat.add_mul];omega
  rw[J,List.take_length_add_append,Nat.add_assoc,List.drop_length_add_append];simp
theorem xy {w:World} {g t:Nat} {cs:List Value} (h:w.heap[g]? =some (.cells cs.toArray t (0,0))):w.rangeAt g 0 cs:=λj v d=>by
 rw[cell_of_row w g (0+j) cs.toArray t (0,0) h,Nat.zero_add,List.getElem?_toArray];exact d
section
variable {P:Program} {C:World->Prop}
theorem jh {l:List Oper} {T:Nat} {Q:Act->World->Prop} {k:Nat} {o:Oper} {rest:List (Nat×Bool)} {a:Act} {w:World} (U:l[k]? =some o) (G:Region.wanted o (yielded l.toArray a.tmps)=true) (O:C w)
  (d:TypeId) (x:Operand) (J:o.op= .load d x) (b H:Nat) (aa:a.eval x= π (some ⟨b,H,none⟩)) (cs:List Value) (I:TypeDesc) (Y: ∀w,C w->w.rangeAt b H cs)
  (ab:P.underlying d=some I) (M:I.isRow=true) (hi:(P.info? d).map (·.size)=some cs.length)
  (h: ∀K:Act->Prop,(∀a,zU P l T C Q rest a w->K a)->K (a.put o.dst (θ cs.toArray))):zU P l T C Q ((k,false)::rest) a w:=
 qE U G O λK N=>⟨θ cs.toArray,λw G=>by
  unfold Oper.quietAt execOp;simp only[J,aa,Instr.loadAt,Instr.sureAddr,Sem.run_bind,Sem.run_pure,Result.andThen_ok,run_loadVar_mid w b H d cs I (Y w G) ab M hi]
  exact⟨rfl,rfl⟩,h K N⟩
theorem YT {w:World} (G:TypeId) (g d:Nat) (e:TypeId) (cur:Array Value) (cs:List Value) (I:w.heap[g]? =some (.cells cur e (0,0))) (N:d+cs.length<=cur.size)
  (hi:(P.info? G).map (·.size)=some cs.length) (M: ∀u∈cs,u.oneCell'=true):
  (Instr.storeAt G (π (some ⟨g,d,none⟩)) (θ cs.toArray)).run P w= .ok () (w.setRow g (xQ cur.toList d cs).toArray):=by
 have H:=run_storeCells_at P g d e cs 0 cur w I (by simpa using N) M;cases hq:P.info? G with
 | none=>simp[hq] at hi
 | some i=>
  have J:cs.length=i.size:=by simp[hq] at hi;omega
  simp only[Nat.add_zero] at H;unfold xQ;simp[Instr.storeAt,Instr.sureAddr,storeVar,sizeOf,typeInfo,hq,Value.cells,J,H]
theorem zF {o:Oper} {a:Act} {w:World} {K:Act->World->Prop} (G:TypeId) (x y:Operand) (H:o.op= .store G x y) (g d:Nat) (e:TypeId) (cur:Array Value) (cs:List Value)
  (M:a.eval x= π (some ⟨g,d,none⟩)) (J:a.eval y= θ cs.toArray) (I:w.heap[g]? =some (.cells cur e (0,0))) (O:d+cs.length<=cur.size) (hi:(P.info? G).map (·.size)=some cs.length) (N: ∀u∈cs,u.oneCell'=true)
  (h:C (w.setRow g (xQ cur.toList d cs).toArray)/\K (a.put o.dst undef) (w.setRow g (xQ cur.toList d cs).toArray)):jn P C o a w K:=by
 unfold jn execOp;simp only[H,M,J,Sem.run_bind,Sem.run_pure,Result.andThen_ok,YT G g d e cur cs I O hi N];exact h
theorem jr {o:Oper} {a:Act} {w:World} {K:Act->World->Prop} (G:TypeId) (x y:Operand) (H:o.op= .store G x y) (g:Nat) (e:TypeId) (c d:Array Value)
  (M:a.eval x= γ g) (J:a.eval y= θ d) (I:w.heap[g]? =some (.cells c e (0,0))) (hi:(P.info? G).map (·.size)=some d.size) (N:c.size=d.size) (O:d.all (·.oneCell')=true)
  (h:C (w.setRow g d)/\K (a.put o.dst undef) (w.setRow g d)):jn P C o a w K:=by
 unfold jn execOp;simp only[H,M,J,Instr.storeAt,Instr.sureAddr,Sem.run_bind,Sem.run_pure,Result.andThen_ok,run_storeVar_row w g e G c d I hi N O];exact h
theorem xW {ops:Array Oper} {rest:List Oper} {o:Oper} {a:Act} {w:World} {Q:Exit->Act->World->Prop} (J:o.guard=none) (G:TypeId) (x y:Operand) (I:o.op= .store G x y)
  (g:Nat) (t:TypeId) (c d:Array Value) (M:w.heap[g]? =some (.cells c t (0,0))) (O:a.eval x= γ g) (N:a.eval y= θ d)
  (hi:(P.info? G).map (·.size)=some d.size) (U:c.size=d.size) (Y:d.all (·.oneCell')=true)
  (h:wpList P ops Q rest (a.put o.dst undef) (w.setRow g d)):wpList P ops Q (o::rest) a w:=by
 refine wpList_plain J λK H=> ?_
 unfold Oper.wp execOp;simp only[I,O,N,Instr.storeAt,Instr.sureAddr,Sem.run_bind,Sem.run_pure,Result.andThen_ok,run_storeVar_row w g t G c d M hi U Y];exact H _ _ h
theorem yL {ops:Array Oper} {rest:List Oper} {o:Oper} {a:Act} {w:World} {Q:Exit->Act->World->Prop} (p:Op) (_:o.op=p) (h:wpList P ops Q (o::rest) a w):wpList P ops Q (o::rest) a w:=h
theorem vO {ops:Array Oper} {rest:List Oper} {o:Oper} {a:Act} {w:World} {Q:Exit->Act->World->Prop} (J:o.guard=none) (d:TypeId) (x:Operand) (I:o.op= .load d x)
  (g:Nat) (t:TypeId) (c:Array Value) (G:TypeDesc) (M:w.heap[g]? =some (.cells c t (0,0))) (O:a.eval x= γ g)
  (U:P.underlying d=some G) (H:G.isRow=true) (hi:(P.info? d).map (·.size)=some c.size)
  (h:wpList P ops Q rest (a.put o.dst (θ c)) w):wpList P ops Q (o::rest) a w:=by
 have N:w.rangeAt g 0 c.toList:=by
  have:=World.rangeAt_of_block M 0 c.size;rw[Nat.zero_add,Array.extract_size] at this;exact this
 have:=wpList_load_mid (P:=P) (ops:=ops) (rest:=rest) (op:=o) (a:=a) (w:=w) (Q:=Q) J d x I g 0 O c.toList G N U H (by rw[hi];simp);simp only[Array.toArray_toList] at this;exact this h
theorem kW (w:World) (t M e:TypeId) (z:Value) (d:List Value) (O:P.underlying t=some (.slice e)) (I: ∀w,(zeroValue e).run P w= .ok z w) (H:(Builtin.zeroCells z.cells 1).toList=d) (g o c:Nat) (cur:Array Value) (N:w.heap[g]? =some (.cells cur e (0,0)))
  (Y:o+d.length<=cur.size) (U: ∀v∈d,v.oneCell'=true):
  (Builtin.clear_ #[t] M #[δ (some ⟨g,o,none⟩) 1 c]).run P w= .ok (.tuple #[]) (w.setRow g (xQ cur.toList o d).toArray):=by
 have J:Builtin.zeroCells z.cells 1=d.toArray:=by
  rw[<-H]
 have G:=run_storeCells_at P g o e d 0 cur w N (by simpa using Y) U;simp only[Nat.add_zero] at G;unfold xQ;simp[Builtin.clear_,run_underlying O,I w,J,G]
end
def jV (A room first q:Nat) (ci co cd cg:Int):Array Value:=
 #[.slice (some ⟨A,0,none⟩) room room,.int .i64 first,.int .i64 q,.bool false,.int .i64 ci,.int .i64 co,.int .i64 cd,.int .i64 cg]
structure qN (n tr te:Nat) (w:World) (R A room first:Nat) (q:List (List Value)) (ci co cd cg:Int) (css:List (List Value)):Prop where
 ring:w.heap[R]? =some (.cells (jV A room first q.length ci co cd cg) tr (0,0))
 row:w.heap[A]? =some (.cells css.flatten.toArray te (0,0))
 ne:R≠A
 len:css.length=room
 all: ∀c∈css,c.length=n/\ ∀u∈c,u.oneCell'=true
 pos:1<=room/\room<=8
 fst:first<room
 fits:q.length<=room
 holds: ∀i,i<q.length->css.getD ((first+i)%room) []=q.getD i []
def RgB (R A:Nat) (b:Nat):Prop:=b=R∨b=A
theorem Mb (first i room:Nat):((first+1)%room+i)%room=(first+(i+1))%room:=by
 rw[Nat.mod_add_mod];congr 1;omega
theorem DO {first i room:Nat} (h:first<room) (hi:i<room):(first+i)%room=if first+i<room then first+i else first+i-room:=by
 split
 ·exact Nat.mod_eq_of_lt (by assumption)
 ·rw[Nat.mod_eq_sub_mod τ,Nat.mod_eq_of_lt τ]
section
variable {n tr te:Nat} {w w':World} {R A room first:Nat} {q:List (List Value)} {ci co cd cg:Int} {css:List (List Value)}
theorem qN.away {S:Nat->Prop} (h:qN n tr te w R A room first q ci co cd cg css) (a:qg S w w') (d: ¬S R) (G: ¬S A):qN n tr te w' R A room first q ci co cd cg css:=
 {h with ring:=a.blk h.ring d,row:=a.blk h.row G}
theorem qN.more (h:qN n tr te w R A room first q ci co cd cg css) (m:qa w w'):qN n tr te w' R A room first q ci co cd cg css:=
 {h with ring:=qc m h.ring,row:=qc m h.row}
theorem qN.ctr (h:qN n tr te w R A room first q ci co cd cg css) (i:Nat) (v:Value) {I d H G:Int} (e:(jV A room first q.length ci co cd cg).setIfInBounds i v=jV A room first q.length I d H G):qN n tr te (w.setCell ⟨R,i,none⟩ v) R A room first q I d H G css:=
 {h with ring:=qB (qp h.ring i v) e,row:=qo h.row _ _ (Ne.symm h.ne)}
theorem qN.popped (h:qN n tr te w R A room first q ci co cd cg css) (v:Int):qN n tr te (w.setCell ⟨R,5,none⟩ (ι v)) R A room first q ci v cd cg css:=h.ctr 5 _ rfl
theorem qN.dropped (h:qN n tr te w R A room first q ci co cd cg css) (v:Int):qN n tr te (w.setCell ⟨R,6,none⟩ (ι v)) R A room first q ci co v cg css:=h.ctr 6 _ rfl
theorem qN.drained (h:qN n tr te w R A room first q ci co cd cg css) (v:Int):qN n tr te (w.setCell ⟨R,7,none⟩ (ι v)) R A room first q ci co cd v css:=h.ctr 7 _ rfl
theorem yo {P:Program} {H:Func} {p u:Tmp} {d:TypeId} (h:H.results= #[.cell p d,.tmp u]) (tmps:Array Value) (w:World) (g:Nat) (t:TypeId) (cs:Array Value) (G:TypeDesc) (v2:Value)
  (N:tmps.getD p undef= γ g) (I:tmps.getD u undef=v2) (O:w.heap[g]? =some (.cells cs t (0,0)))
  (Y:P.underlying d=some G) (M:(match G with | .struct _ | .array _ _=>true | _=>false)=true) (hi:(P.info? d).map (·.size)=some cs.size):
  (results H tmps).run P w= .ok (.tuple #[θ cs,v2]) w:=by
 have U:tmps[p]?.getD undef= γ g:=by simpa using N
 have J:tmps[u]?.getD undef=v2:=by simpa using I
 simp[results,h,U,J,asAddr,run_loadVar_row w g t d cs (0,0) G O Y M hi]
theorem KW {P:Program} {H:Func} {p u s:Tmp} {d:TypeId} (h:H.results= #[.cell p d,.tmp u,.tmp s]) (tmps:Array Value) (w:World) (g:Nat) (t:TypeId) (cs:Array Value) (G:TypeDesc) (v2 v3:Value)
  (N:tmps.getD p undef= γ g) (I:tmps.getD u undef=v2) (aa:tmps.getD s undef=v3) (O:w.heap[g]? =some (.cells cs t (0,0)))
  (ab:P.underlying d=some G) (M:(match G with | .struct _ | .array _ _=>true | _=>false)=true) (hi:(P.info? d).map (·.size)=some cs.size):
  (results H tmps).run P w= .ok (.tuple #[θ cs,v2,v3]) w:=by
 have U:tmps[p]?.getD undef= γ g:=by simpa using N
 have J:tmps[u]?.getD undef=v2:=by simpa using I
 have Y:tmps[s]?.getD undef=v3:=by simpa using aa
 simp[results,h,U,J,Y,asAddr,run_loadVar_row w g t d cs (0,0) G O ab M hi]
theorem qN.cl (h:qN n tr te w R A room first q ci co cd cg css): ∀c∈css,c.length=n:=λc d=>(h.all c d).1
theorem qN.size (h:qN n tr te w R A room first q ci co cd cg css):css.flatten.toArray.size=room* n:=by rw[List.size_toArray,DN css h.cl,h.len]
theorem qN.range (h:qN n tr te w R A room first q ci co cd cg css) {k:Nat} (J:k<room):w.rangeAt A (k* n) (css.getD k []):=λj v G=>by
 have d:k<css.length:=by rw[h.len];exact J
 have H:(css.getD k []).length=n:=by
  rw[List.getD_eq_getElem?_getD,List.getElem?_eq_getElem d];exact h.cl _ (List.getElem_mem d)
 have I:j<n:=by rw[<-H];exact(List.getElem?_eq_some_iff.1 G).1
 rw[cell_of_row w A (k* n+j) css.flatten.toArray te (0,0) h.row,List.getElem?_toArray,Wr css k j h.cl d I];exact G
theorem qN.head {c:List Value} {T:List (List Value)} (h:qN n tr te w R A room first (c::T) ci co cd cg css):css.getD first []=c:=by
 have:=h.holds 0 η;rw[Nat.add_zero,Nat.mod_eq_of_lt h.fst] at this;exact this
theorem qN.ofHead {c:List Value} {T:List (List Value)} (h:qN n tr te w R A room first (c::T) ci co cd cg css):c.length=n/\ ∀u∈c,u.oneCell'=true:=by
 rw[<-h.head];have d:first<css.length:=by rw[h.len];exact h.fst
 rw[List.getD_eq_getElem?_getD,List.getElem?_eq_getElem d];exact h.all _ (List.getElem_mem d)
theorem qN.qall (h:qN n tr te w R A room first q ci co cd cg css): ∀c∈q,c.length=n/\ ∀u∈c,u.oneCell'=true:=λc G=>by
 obtain⟨i,hi,rfl⟩:=List.mem_iff_getElem.1 G;have:=h.holds i hi;rw[List.getD_eq_getElem?_getD,List.getD_eq_getElem?_getD,List.getElem?_eq_getElem hi,Option.getD_some] at this;rw[<-this];have d:(first+i)%room<css.length:=by rw[h.len];exact Nat.mod_lt _ (by have:=h.pos;omega)
 rw[List.getElem?_eq_getElem d];exact h.all _ (List.getElem_mem d)
theorem WH {p:List Value->Prop} {css:List (List Value)} {k:Nat} {z:List Value} (h: ∀c∈css,p c) (d:p z): ∀c∈css.set k z,p c:=λc G=>by
 rcases List.mem_or_eq_of_mem_set G with h1 | rfl
 ·exact h c h1
 ·exact d
theorem qN.took {c:List Value} {T:List (List Value)} (h:qN n tr te w R A room first (c::T) ci co cd cg css) {z:List Value} (M:z.length=n/\ ∀u∈z,u.oneCell'=true) {G d I H:Int}
  (U:w'.heap[R]? =some (.cells (jV A room ((first+1)%room) T.length G d I H) tr (0,0))) (aa:w'.heap[A]? =some (.cells (css.set first z).flatten.toArray te (0,0))):qN n tr te w' R A room ((first+1)%room) T G d I H (css.set first z):=by
 have O:=h.fits;simp at O;refine⟨U,aa,h.ne,by rw[List.length_set];exact h.len,WH h.all M,h.pos,Nat.mod_lt _ (by have:=h.pos;omega),τ,λi hi=> ?_⟩;rw[Mb];have Y:=h.holds (i+1) (by simp;omega);have J:=h.fst;have N:(first+(i+1))%room≠first:=by
  intro e;rw[DO J τ] at e;split at e<;>omega
 rw[List.getD_eq_getElem?_getD,List.getElem?_set_ne (Ne.symm N),<-List.getD_eq_getElem?_getD,Y];rfl
theorem qN.put (h:qN n tr te w R A room first q ci co cd cg css) (O:q.length<room) {c:List Value} (Y:c.length=n/\ ∀u∈c,u.oneCell'=true) {I H M J:Int}
  (U:w'.heap[R]? =some (.cells (jV A room first (q.length+1) I H M J) tr (0,0))) (aa:w'.heap[A]? =some (.cells (css.set ((first+q.length)%room) c).flatten.toArray te (0,0))):qN n tr te w' R A room first (q++[c]) I H M J (css.set ((first+q.length)%room) c):=by
 refine⟨by simpa using U,aa,h.ne,by rw[List.length_set];exact h.len,WH h.all Y,h.pos,h.fst,by simp;omega,λi hi=> ?_⟩;have G:=h.fst;simp at hi;by_cases e:i=q.length
 ·subst e;rw[List.getD_eq_getElem?_getD,List.getElem?_set_self (by rw[h.len];exact Nat.mod_lt _ τ)];simp
 ·have N:(first+i)%room≠(first+q.length)%room:=by
   intro d;rw[DO G τ,DO G O] at d;split at d<;>split at d<;>omega
  rw[List.getD_eq_getElem?_getD,List.getElem?_set_ne (Ne.symm N),<-List.getD_eq_getElem?_getD,h.holds i τ];simp only[List.getD_eq_getElem?_getD];rw[List.getElem?_append_left τ]
end
def Wt (zs:List Value) (first room:Nat) (q0 css:List (List Value)) (cd:Int):Bool->List Value->Nat->List (List Value)->Int->List (List Value)->Prop
 | false,old,f,q,cd',cs=>old=zs/\f=first/\q=q0/\cd'=cd/\cs=css
 | true,old,f,q,_,cs=>q0=old::q/\f=(first+1)%room/\cs=css.set first zs
def jj (n:Int):Bool:=decide (0<=n/\n<3)
theorem Ψ1 {P:Prop} (h:P:=by
 have G:Hid (jj n=decide (0<=n/\n<3)):=κ rfl;by_cases h1:0<=n
 ·by_cases h2:n<3
  ·have d:jj n=true:=by rw[G.o];simp[h1,h2]
   rw[d]
   go_enter Ξa,Ξb
   go_wp2
   all_goals (go_ret;first | exact⟨rfl,rfl⟩ | omega)
  ·have d:jj n=false:=by rw[G.o];simp[h2]
   rw[d]
   go_enter Ξa,Ξb
   go_wp2
   all_goals (go_ret;first | exact⟨rfl,rfl⟩ | omega)
 ·have d:jj n=false:=by rw[G.o];simp[h1]
  rw[d]
  go_enter Ξa,Ξb
  go_wp2
  all_goals (go_ret;first | exact⟨rfl,rfl⟩ | omega)):P:=h
section
open _root_.Go.Proofs.Tryz renaming func155->Ξa,ntmps155->Ξb
theorem YQ (n:Int) (w:World):Calls prog 155 #[ι n] w λe w'=>e= .returned (μ (jj n))/\w'=w:=Ψ1
end
section
open _root_.Go.Proofs.Tryz renaming func117->Ξa,ntmps117->Ξb
theorem xX (n:Int) (w:World):Calls prog 117 #[ι n] w λe w'=>e= .returned (μ (jj n))/\w'=w:=Ψ1
end
theorem QT (c t n:Int) (d:jj n=true) (w:World):Calls prog 118 #[θ #[ι c,ι t],ι n] w λe w'=>e= .returned (.tuple #[θ #[ι c,ι n],ι 0])/\qa w w':=by
 have G:=κ d;clear d
 go_enter func118,ntmps118
 go_wp2_with (first | (go_at_call 155;((with_reducible refine(YQ n _).mono ?_);rintro e w1 ⟨rfl,rfl⟩;rw[G.o])))
 refine bodyPost_ret (v:= .tuple #[θ #[ι c,ι n],ι 0]) (by simp[results,results118,go_sem]) rfl ?_;exact⟨rfl,ρ⟩
theorem YS (n:Int) (G:jj n=true) (w:World):Calls prog 119 #[ι n] w λe w'=>e= .returned (.tuple #[θ #[ι (-1),ι n],ι 0])/\qa w w':=by
 have J:=κ G;clear G
 go_enter func119,ntmps119
 go_wp2_with (first | (go_at_call 118;(go_call QT (-1) 0 n J.o _ as e w1 ⟨rfl,d⟩;have H:Hid (w1.heap[w.heap.size]? =some (.cells #[ι 0,ι 0] 71 (0,0))):=κ (qc d (qj _ _));have I:=κ ((qa.alloc _ _).trans d);clear d)) | (refine yL (.store 71 (.tmp 2) (.tmp 7)) rfl ?_;refine xW rfl 71 (.tmp 2) (.tmp 7) rfl w.heap.size 71 _ #[ι (-1),ι n] H.o rfl rfl ξ rfl (all_oneCell_toArray (by simp[Value.oneCell'])) ?_))
 refine bodyPost_ret (v:= .tuple #[θ #[ι (-1),ι n],ι 0]) (yo results119 _ _ w.heap.size 71 #[ι (-1),ι n] _ _ rfl rfl (jY H.o _) underlying71 rfl ξ) rfl ?_;exact⟨rfl,(xb _ _ _).to_more I.o (λk e=>by rw[e];exact Nat.le_refl _)⟩
theorem Uo (c t n:Int) (k:Bool) (d:(n==c)=true) (G:(n != c)=false) (w:World):Calls prog 184 #[θ #[ι c,ι t],ι n,k] w λe w'=>e= .returned (.tuple #[θ #[ι c,ι t],ι 0,false])/\qa w w':=by
 go_enter func184,ntmps184
 go_wp2;refine bodyPost_ret (v:= .tuple #[θ #[ι c,ι t],ι 0,false]) (by simp[results,results184,go_sem]) rfl ?_;exact⟨rfl,ρ⟩
theorem Up (c t n:Int) (k:Bool) (d:(n != c)=true) (H:(n==t)=true) (G:k=true) (w:World):Calls prog 184 #[θ #[ι c,ι t],ι n,k] w λe w'=>e= .returned (.tuple #[θ #[ι n,ι t],ι 0,true])/\qa w w':=by
 go_enter func184,ntmps184
 go_wp2;refine bodyPost_ret (v:= .tuple #[θ #[ι n,ι t],ι 0,true]) (by simp[results,results184,go_sem]) rfl ?_;exact⟨rfl,ρ⟩
theorem V9 (c t n:Int) (k:Bool) (d:(n != c)=true) (H:(n==c)=false) (I:(n==t)=true) (G:k=false) (w:World):Calls prog 184 #[θ #[ι c,ι t],ι n,k] w λe w'=>e= .returned (.tuple #[θ #[ι c,ι t],ι 5,false])/\qa w w':=by
 go_enter func184,ntmps184
 go_wp2;refine bodyPost_ret (v:= .tuple #[θ #[ι c,ι t],ι 5,false]) (by simp[results,results184,go_sem]) rfl ?_;exact⟨rfl,ρ⟩
theorem AG (c t n:Int) (k:Bool) (d:(n != c)=true) (G:(n==c)=false) (H:(n==t)=false) (w:World):Calls prog 184 #[θ #[ι c,ι t],ι n,k] w λe w'=>e= .returned (.tuple #[θ #[ι c,ι t],ι 4,false])/\qa w w':=by
 go_enter func184,ntmps184
 go_wp2;refine bodyPost_ret (v:= .tuple #[θ #[ι c,ι t],ι 4,false]) (by simp[results,results184,go_sem]) rfl ?_;exact⟨rfl,ρ⟩
theorem Ka (m:Int) (G:1<=m) (d:m<=10) (w:World):Calls prog 115 #[ι m] w λe w'=>e= .returned (.tuple #[θ #[ι m,ι 0,false],ι 0])/\qa w w':=by
 go_enter func115,ntmps115
 go_wp2;refine bodyPost_ret (v:= .tuple #[θ #[ι m,ι 0,false],ι 0]) (by simp[results,results115,go_sem]) rfl ?_;exact⟨rfl,ρ⟩
theorem Zf (s q t:Int) (w:World):Calls prog 116 #[ω s,φ q,ω t] w λe w'=>e= .returned (θ #[ω s,φ q,ω t,false,ω 0,ω 0])/\qa w w':=by
 go_enter func116,ntmps116
 go_wp2;refine bodyPost_ret (v:= θ #[ω s,φ q,ω t,false,ω 0,ω 0]) (by simp[results,results116,go_sem]) rfl ?_;exact⟨rfl,ρ⟩
theorem XP (m r:Int) (g:Bool) (w:World):Calls prog 206 #[θ #[ι m,ι r,g]] w λe w'=>e= .returned (θ #[ι m,ι 0,g])/\qa w w':=by
 go_enter func206,ntmps206
 go_wp2;refine bodyPost_ret (v:= θ #[ι m,ι 0,g]) (by simp[results,results206,go_sem]) rfl ?_;exact⟨rfl,ρ⟩
theorem Zg (m r:Int) (g:Bool) (d:0<=r) (G:r<=10) (w:World):Calls prog 205 #[θ #[ι m,ι r,g]] w λe w'=>e= .returned (θ #[ι m,ι (r+1),(r+1==m)])/\qa w w':=by
 go_enter func205,ntmps205
 go_wp2;refine bodyPost_ret (v:= θ #[ι m,ι (r+1),(r+1==m)]) (by simp[results,results205,go_sem]) rfl ?_;exact⟨rfl,ρ⟩
theorem UL (m r:Int) (a:Bool) (w:World):Calls prog 162 #[θ #[ι m,ι r,true],a] w λe w'=>e= .returned (.tuple #[θ #[ι m,ι r,true],false])/\qa w w':=by
 go_enter func162,ntmps162
 go_wp2;refine bodyPost_ret (v:= .tuple #[θ #[ι m,ι r,true],false]) (by simp[results,results162,go_sem]) rfl ?_;exact⟨rfl,ρ⟩
theorem Pj (m r:Int) (w:World):Calls prog 162 #[θ #[ι m,ι r,false],true] w λe w'=>e= .returned (.tuple #[θ #[ι m,ι 0,false],false])/\qa w w':=by
 have U:=κ (XP m r false)
 go_enter func162,ntmps162
 go_wp2_with (refine(U.o _).mono ?_;rintro e w1 ⟨rfl,J⟩;have H:Hid (w1.heap[w.heap.size+1]? =some (.cells #[ι 0,ι 0,false] 182 (0,0))):=κ (qc J (qC η));have N:Hid (qa w w1):=κ (((qa.alloc _ _).al _).trans J);clear J)
 obtain⟨W1,G⟩:=ν (w1.alloc (.cells #[ι m,ι 0,false] 182));have aa:Hid (qa w W1):=κ (by rw[<-G];exact N.o.al _);have M:Hid (W1.heap[w.heap.size+1]? =some (.cells #[ι 0,ι 0,false] 182 (0,0))):=κ (by rw[<-G];exact qs H.o _);have I:Hid (W1.heap[w1.heap.size]? =some (.cells #[ι m,ι 0,false] 182 (0,0))):=κ (by rw[<-G];exact qj w1 _);rw[G];clear G N;have Y: ∀x:qz (λb=>b=w.heap.size+1) W1,x.w'.rangeAt w1.heap.size 0 [ι m,ι 0,false]:=λx=>xy (x.h.blk I.o (by have:=qn H.o;omega))
 have ab: ∀x:qz (λb=>b=w.heap.size+1) W1,x.w'.cell? ⟨w1.heap.size,2,none⟩=some (μ false):=λx=>x.cell (qn I.o) (by have:=qn H.o;omega) (qb I.o 2 rfl)
 clear H;refine QN (λb=>b=w.heap.size+1) W1 4 5 [3,4] ?_;refine jh rfl rfl (qi σ) 182 (.tmp 7) rfl w1.heap.size 0 rfl [ι m,ι 0,false] _ (λw' O=>by obtain⟨x,rfl⟩:=O;exact Y x) underlying182 rfl ξ ?_;intro K d;go_simp;refine d _ ?_;clear d K
 refine Qs ?_
 refine jR rfl rfl ?_;intro K d;refine jr 182 (.tmp 4) (.tmp 18) rfl (w.heap.size+1) 182 _ #[ι m,ι 0,false] rfl rfl (qr M.o 1) ξ rfl (all_oneCell_toArray (by simp[Value.oneCell'])) ?_;refine⟨qi (((qg.refl (λb=>b=w.heap.size+1) W1).drewN 1).row (g:=w.heap.size+1) rfl _), ?_⟩;go_simp;refine d _ _ ?_;clear d K
 (refine Qe ?_;intro K d)
 refine d _ _ ?_;clear d K;refine qA ?_;go_wp2;refine bodyPost_ret (v:= .tuple #[θ #[ι m,ι 0,false],false]) (yo results162 _ _ (w.heap.size+1) 182 #[ι m,ι 0,false] _ _ rfl rfl (jY (qr M.o 1) _) underlying182 rfl ξ) rfl ?_;exact⟨rfl,(xb _ _ _).to_more (aa.o.dr 1) (λk e=>by rw[e];exact Nat.le_succ _)⟩
theorem BD (m r:Int) (ab:0<=r) (ae:r<=10) (q:Int) (b:Bool) (N:r+1=q) (O:(q==m)=b) (w:World):Calls prog 162 #[θ #[ι m,ι r,false],false] w λe w'=>e= .returned (.tuple #[θ #[ι m,ι q,b],b])/\qa w w':=by
 have H:=Zg m r false ab ae;rw[N,O] at H;have H:=κ H;clear N O
 go_enter func162,ntmps162
 go_wp2_with (refine(H.o _).mono ?_;rintro e w1 ⟨rfl,M⟩;have I:Hid (w1.heap[w.heap.size+1]? =some (.cells #[ι 0,ι 0,false] 182 (0,0))):=κ (qc M (qC η));have Y:Hid (qa w w1):=κ (((qa.alloc _ _).al _).trans M);clear M)
 obtain⟨W1,G⟩:=ν (w1.alloc (.cells #[ι m,ι q,b] 182));have ac:Hid (qa w W1):=κ (by rw[<-G];exact Y.o.al _);have U:Hid (W1.heap[w.heap.size+1]? =some (.cells #[ι 0,ι 0,false] 182 (0,0))):=κ (by rw[<-G];exact qs I.o _);have J:Hid (W1.heap[w1.heap.size]? =some (.cells #[ι m,ι q,b] 182 (0,0))):=κ (by rw[<-G];exact qj w1 _);rw[G];clear G Y;have ad: ∀x:qz (λb=>b=w.heap.size+1) W1,x.w'.rangeAt w1.heap.size 0 [ι m,ι q,b]:=λx=>xy (x.h.blk J.o (by have:=qn I.o;omega))
 have af: ∀x:qz (λb=>b=w.heap.size+1) W1,x.w'.cell? ⟨w1.heap.size,2,none⟩=some (μ b):=λx=>x.cell (qn J.o) (by have:=qn I.o;omega) (qb J.o 2 rfl)
 clear I;refine QN (λb=>b=w.heap.size+1) W1 4 5 [3,4] ?_;refine jh rfl rfl (qi σ) 182 (.tmp 7) rfl w1.heap.size 0 rfl [ι m,ι q,b] _ (λw' aa=>by obtain⟨x,rfl⟩:=aa;exact ad x) underlying182 rfl ξ ?_;intro K d;go_simp;refine d _ ?_;clear d K
 refine Qs ?_
 refine jR rfl rfl ?_;intro K d;refine jr 182 (.tmp 4) (.tmp 18) rfl (w.heap.size+1) 182 _ #[ι m,ι q,b] rfl rfl (qr U.o 1) ξ rfl (all_oneCell_toArray (by simp[Value.oneCell'])) ?_;refine⟨qi (((qg.refl (λb=>b=w.heap.size+1) W1).drewN 1).row (g:=w.heap.size+1) rfl _), ?_⟩;go_simp;refine d _ _ ?_;clear d K
 (refine Qe ?_;intro K d)
 refine d _ _ ?_;clear d K;refine qA ?_;go_wp2;refine bodyPost_ret (v:= .tuple #[θ #[ι m,ι q,b],b]) (yo results162 _ _ (w.heap.size+1) 182 #[ι m,ι q,b] _ _ rfl rfl (jY (qr U.o 1) _) underlying182 rfl ξ) rfl ?_;exact⟨rfl,(xb _ _ _).to_more (ac.o.dr 1) (λk e=>by rw[e];exact Nat.le_succ _)⟩
theorem EN {P:Program} {J:Func} {p u:Tmp} {G d:TypeId} (h:J.results= #[.cell p G,.cell u d]) (tmps:Array Value) (w:World) (g g':Nat) (t t':TypeId) (cs cs':Array Value) (I H:TypeDesc)
  (Y:tmps.getD p undef= γ g) (M:tmps.getD u undef= γ g') (aa:w.heap[g]? =some (.cells cs t (0,0))) (O:w.heap[g']? =some (.cells cs' t' (0,0)))
  (ae:P.underlying G=some I) (U:(match I with | .struct _ | .array _ _=>true | _=>false)=true) (hi:(P.info? G).map (·.size)=some cs.size)
  (ad:P.underlying d=some H) (af:(match H with | .struct _ | .array _ _=>true | _=>false)=true) (ac:(P.info? d).map (·.size)=some cs'.size):
  (results J tmps).run P w= .ok (.tuple #[θ cs,θ cs']) w:=by
 have ab:tmps[p]?.getD undef= γ g:=by simpa using Y
 have N:tmps[u]?.getD undef= γ g':=by simpa using M
 simp[results,h,ab,N,asAddr,run_loadVar_row w g t G cs (0,0) I aa ae U hi,run_loadVar_row w g' t' d cs' (0,0) H O ad af ac]
structure RwS where
 src:Int
 sq:Int
 st:Int
 any:Bool
 last:Int
 shift:Int
def shL (s:RwS) (t:Int) (first:Bool):Int:=if s.any then (if first then (s.last+3000-t)%4294967296 else s.shift) else (s.st-t)%4294967296
theorem Az (d sq st la M:Int) (any first:Bool) (I:Bool) (H q t N:Int) (w:World) (X:Int) (G:shL ⟨d,sq,st,any,la,M⟩ t first=X):
    Calls prog 228 #[θ #[ω d,φ sq,ω st,any,ω la,ω M],θ #[μ I,υ H,φ q,ω t,ω N],first] w
      λe w'=>e= .returned (θ #[μ I,υ H,φ sq,ω ((t+X)%4294967296),ω d,ω X])/\qa w w':=by
  cases any with
  | false=>
    obtain rfl:X=(st-t)%4294967296:=by rw[<-G];rfl
    clear G
    have J:(t+(st-t)%4294967296)%4294967296=(t+(st-t))%4294967296:=by omega
    rw[J]
    clear J
    go_enter func228,ntmps228
    go_wp2
    refine bodyPost_ret (v:= θ #[μ I,υ H,φ sq,ω ((t+(st-t))%4294967296),ω d,ω ((st-t)%4294967296)]) (by simp[results,results228,go_sem]) rfl ?_
    exact⟨rfl,ρ⟩
  | true=>
   cases first with
   | true=>
    obtain rfl:X=(la+3000-t)%4294967296:=by rw[<-G];rfl
    clear G
    have J:(t+(la+3000-t)%4294967296)%4294967296=(t+(la+3000-t))%4294967296:=by omega
    rw[J]
    clear J
    go_enter func228,ntmps228
    go_wp2
    refine bodyPost_ret (v:= θ #[μ I,υ H,φ sq,ω ((t+(la+3000-t))%4294967296),ω d,ω ((la+3000-t)%4294967296)]) (by simp[results,results228,go_sem]) rfl ?_
    exact⟨rfl,ρ⟩
   | false=>
    obtain rfl:X=M:=by rw[<-G];rfl
    clear G
    go_enter func228,ntmps228
    go_wp2
    refine bodyPost_ret (v:= θ #[μ I,υ H,φ sq,ω ((t+X)%4294967296),ω d,ω X]) (by simp[results,results228,go_sem]) rfl ?_
    exact⟨rfl,ρ⟩
theorem AI (d sq st la N:Int) (any first:Bool) (H:Bool) (J q t ae:Int) (w:World) (X:Int) (ak:shL ⟨d,sq,st,any,la,N⟩ t first=X) (Z:Int) (ai:(t+X)%4294967296=Z) (Q:Int) (af:(sq+1)%65536=Q):
  Calls prog 187 #[θ #[ω d,φ sq,ω st,any,ω la,ω N],θ #[μ H,υ J,φ q,ω t,ω ae],first] w
   λe w'=>e= .returned (.tuple #[θ #[ω d,φ Q,ω st,true,ω Z,ω X],θ #[μ H,υ J,φ sq,ω Z,ω d]])/\qa w w':=by
 have U:=λw=>Az d sq st la N any first H J q t ae w X ak
 rw[ai] at U;have U:=κ U;have ad:=κ af;clear ak ai af
 go_enter func187,ntmps187
 go_wp2_with (refine(U.o _).mono ?_;rintro e w1 ⟨rfl,O⟩;have I:Hid (w1.heap[w.heap.size]? =some (.cells #[ω d,φ sq,ω st,any,ω la,ω N] 180 (0,0))):=κ (qc O (by repeat (first | exact qC η | refine qs ?_ _)));have ac:Hid (w1.heap[w.heap.size+2]? =some (.cells #[ω 0,φ 0,ω 0,false,ω 0,ω 0] 180 (0,0))):=κ (qc O (by repeat (first | exact qC η | refine qs ?_ _)));have Y:Hid (w1.heap[w.heap.size+3]? =some (.cells #[μ false,υ 0,φ 0,ω 0,ω 0] 52 (0,0))):=κ (qc O (by repeat (first | exact qC η | refine qs ?_ _)));have am:Hid (qa w w1):=κ ((((qa.refl w).al _ |>.al _ |>.al _ |>.al _)).trans O);clear O;have aD:w.heap.size<w1.heap.size:=qn I.o;have ao:w1.cell? ⟨w.heap.size,1,none⟩=some (φ sq):=qb I.o 1 rfl;have ar:w1.cell? ⟨w.heap.size,3,none⟩=some (μ any):=qb I.o 3 rfl;have aq:w1.cell? ⟨w.heap.size,4,none⟩=some (ω la):=qb I.o 4 rfl;have aA:w1.cell? ⟨w.heap.size,5,none⟩=some (ω N):=qb I.o 5 rfl;have an:w1.frozen? ⟨w.heap.size,1,none⟩=false:=qd I.o 1;have az:w1.frozen? ⟨w.heap.size,3,none⟩=false:=qd I.o 3;have aC:w1.frozen? ⟨w.heap.size,4,none⟩=false:=qd I.o 4;have ap:w1.frozen? ⟨w.heap.size,5,none⟩=false:=qd I.o 5)
 have ag:IntKind.u16.wrap (sq+1)=Q:=ad.o;rw[ag];obtain⟨W1,M⟩:=ν ((((((w1.setCell ⟨w.heap.size,1,none⟩ (φ Q)).setCell ⟨w.heap.size,3,none⟩ (μ true)).setCell ⟨w.heap.size,4,none⟩ (ω Z)).setCell ⟨w.heap.size,5,none⟩ (ω X)).alloc (.cells #[μ H,υ J,φ sq,ω Z,ω d,ω X] 380)));have av:Hid (qa w W1):=κ (by rw[<-M];exact((((am.o.st (Nat.le_refl _) _).st (Nat.le_refl _) _).st (Nat.le_refl _) _).st (Nat.le_refl _) _).al _);have ay:Hid (W1.heap[w.heap.size]? =some (.cells #[ω d,φ Q,ω st,true,ω Z,ω X] 180 (0,0))):=κ (by rw[<-M];exact qs (qB (qp (qp (qp (qp I.o 1 _) 3 _) 4 _) 5 _) rfl) _);have aj:Hid (W1.heap[w.heap.size+2]? =some (.cells #[ω 0,φ 0,ω 0,false,ω 0,ω 0] 180 (0,0))):=κ (by rw[<-M];exact qs (qo (qo (qo (qo ac.o ⟨w.heap.size,1,none⟩ _ (by show w.heap.size+2≠w.heap.size;omega)) ⟨w.heap.size,3,none⟩ _ (by show w.heap.size+2≠w.heap.size;omega)) ⟨w.heap.size,4,none⟩ _ (by show w.heap.size+2≠w.heap.size;omega)) ⟨w.heap.size,5,none⟩ _ (by show w.heap.size+2≠w.heap.size;omega)) _);have ab:Hid (W1.heap[w.heap.size+3]? =some (.cells #[μ false,υ 0,φ 0,ω 0,ω 0] 52 (0,0))):=κ (by rw[<-M];exact qs (qo (qo (qo (qo Y.o ⟨w.heap.size,1,none⟩ _ (by show w.heap.size+3≠w.heap.size;omega)) ⟨w.heap.size,3,none⟩ _ (by show w.heap.size+3≠w.heap.size;omega)) ⟨w.heap.size,4,none⟩ _ (by show w.heap.size+3≠w.heap.size;omega)) ⟨w.heap.size,5,none⟩ _ (by show w.heap.size+3≠w.heap.size;omega)) _);have aw:Hid (W1.heap[w1.heap.size]? =some (.cells #[μ H,υ J,φ sq,ω Z,ω d,ω X] 380 (0,0))):=κ (by rw[<-M];exact qC η);have aE:w.heap.size+3<w1.heap.size:=qn Y.o;rw[M];clear M am I ac Y ao ar aq aA an az aC ap ag ad;have aB: ∀x:qz (λb=>b=w.heap.size+2∨b=w.heap.size+3) W1,x.w'.rangeAt w.heap.size 0 [ω d,φ Q,ω st,true,ω Z,ω X]:=λx=>xy (x.h.blk ay.o τ)
 have ax: ∀x:qz (λb=>b=w.heap.size+2∨b=w.heap.size+3) W1,x.w'.rangeAt w1.heap.size 0 [μ H,υ J,φ sq,ω Z,ω d]:=λx=>by
  have:=xy (cs:=[μ H,υ J,φ sq,ω Z,ω d,ω X]) (x.h.blk aw.o τ);intro j v ah;refine this j v ?_;have au:=(List.getElem?_eq_some_iff.1 ah).1;rw[<-ah];exact List.getElem?_append_left (l₂:=[ω X]) au
 refine QN (λb=>b=w.heap.size+2∨b=w.heap.size+3) W1 4 5 [3,4] ?_;refine jh rfl rfl (qi σ) 180 (.tmp 3) rfl w.heap.size 0 rfl [ω d,φ Q,ω st,true,ω Z,ω X] _ (λw' aa=>by obtain⟨x,rfl⟩:=aa;exact aB x) underlying180 rfl ξ ?_;intro K G;go_simp;refine G _ ?_;clear G K
 iterate 1 (refine qE rfl rfl (qi σ) ?_;intro K G;go_big_quiet_op;go_big_quiet_on)
 refine jh rfl rfl (qi σ) 52 (.tmp 26) rfl w1.heap.size 0 rfl [μ H,υ J,φ sq,ω Z,ω d] _ (λw' aa=>by obtain⟨x,rfl⟩:=aa;exact ax x) underlying52 rfl ξ ?_;intro K G;go_simp;refine G _ ?_;clear G K;refine jR rfl rfl ?_;intro K G;refine jr 180 (.tmp 6) (.tmp 25) rfl (w.heap.size+2) 180 _ #[ω d,φ Q,ω st,true,ω Z,ω X] rfl rfl (qr aj.o 1) ξ rfl (all_oneCell_toArray (by simp[Value.oneCell'])) ?_;refine⟨qi (((qg.refl (λb=>b=w.heap.size+2∨b=w.heap.size+3) W1).drewN 1).row (g:=w.heap.size+2) (Or.inl rfl) _), ?_⟩;go_simp;refine G _ _ ?_;clear G K;refine zY rfl rfl ζ ?_;intro K G;refine jr 52 (.tmp 7) (.tmp 27) rfl (w.heap.size+3) 52 _ #[μ H,υ J,φ sq,ω Z,ω d] rfl rfl (qS (qr ab.o 1) _ τ) ξ rfl (all_oneCell_toArray (by simp[Value.oneCell'])) ?_;refine⟨trivial, ?_⟩;go_simp;refine G _ _ ?_;clear G K;refine qA ?_;go_wp2;refine bodyPost_ret (v:= .tuple #[θ #[ω d,φ Q,ω st,true,ω Z,ω X],θ #[μ H,υ J,φ sq,ω Z,ω d]]) (EN results187 _ _ (w.heap.size+2) (w.heap.size+3) 180 52 #[ω d,φ Q,ω st,true,ω Z,ω X] #[μ H,υ J,φ sq,ω Z,ω d] _ _ rfl rfl (qS (jY (qr aj.o 1) _) _ τ) (jY (qS (qr ab.o 1) _ τ) _) underlying180 rfl ξ underlying52 rfl ξ) rfl ?_;exact⟨rfl,(xb _ _ _).to_more ((xb _ _ _).to_more (av.o.dr 1) (λk e=>by rw[e];exact Nat.le_add_right _ _)) (λk e=>by rw[e];exact Nat.le_add_right _ _)⟩
structure ItS where
 id:Int
 layer:Int
 key:Bool
 pk:Pk
structure LnS where
 room:Nat
 A:List ItS
 B:List (ItS×Bool)
 C:List (Int×List Int)
 W:List (Int×List Int)
 wanted:Bool
 cur:Int
 tgt:Int
 rw:RwS
 most:Int
 row:Int
 gone:Bool
def Vd (room:Nat) (most src sq st:Int):LnS:=⟨room,[],[],[],[],false,0,0,⟨src,sq,st,false,0,0⟩,most,0,false⟩
def yX (s:LnS) (x:ItS):LnS×Int×Bool:=if s.A.length<s.room then ({s with A:=s.A++[x]},0,false) else ({s with A:=s.A.tail++[x]},(s.A.head?.map (·.id)).getD 0,true)
def xp (s:LnS) (x:ItS):LnS×Int×Bool×Int:=
 if (jj x.layer&&jJ x.pk)=false then (s,0,false,1) else if s.gone then (s,0,false,7) else if s.wanted=false then (s,0,false,5) else ((yX s x).1,(yX s x).2.1,(yX s x).2.2,0)
def xJ (cur tgt layer:Int) (key:Bool):Int×Int×Bool:=
 if layer=cur then (cur,0,false) else if layer=tgt then (if key then (layer,0,true) else (cur,5,false)) else (cur,4,false)
def vC (s:LnS) (n:Int):Bool:=if n=1 then decide (0<s.A.length)&&decide (¬s.B.length=s.room) else if n=2 then decide (0<s.B.length) else if n=3 then decide (0<s.C.length) else false
def jf (s:LnS):LnS×Int×Int×Bool:=
 if vC s 1=false then (s,0,0,false) else
 match s.A with
 | []=>(s,0,0,false)
 | x::A=>({s with A:=A,cur:=(xJ s.cur s.tgt x.layer x.key).1,B:=if (xJ s.cur s.tgt x.layer x.key).2.1=0 then s.B++[(x,(xJ s.cur s.tgt x.layer x.key).2.2)] else s.B},x.id,(xJ s.cur s.tgt x.layer x.key).2.1,true)
def kY (r:RwS) (p:Pk) (first:Bool):Pk:={p with sq:=r.sq,st:=(p.st+shL r p.st first)%4294967296,sc:=r.src}
def ul (r:RwS) (p:Pk) (first:Bool):RwS:=⟨r.src,(r.sq+1)%65536,r.st,true,(p.st+shL r p.st first)%4294967296,shL r p.st first⟩
def vf (s:LnS) (o:Int×List Int):LnS×Int×Bool:=if s.C.length<s.room then ({s with C:=s.C++[o]},0,false) else ({s with C:=s.C.tail++[o]},(s.C.head?.map (·.1)).getD 0,true)
def qY (s:LnS):LnS×Int×Bool×Bool:=
 match s.B with
 | []=>(s,0,false,false)
 | (x,f)::B=>((vf {s with B:=B,rw:=ul s.rw x.pk f} (x.id,pkB (kY s.rw x.pk f))).1,(vf {s with B:=B,rw:=ul s.rw x.pk f} (x.id,pkB (kY s.rw x.pk f))).2.1,(vf {s with B:=B,rw:=ul s.rw x.pk f} (x.id,pkB (kY s.rw x.pk f))).2.2,true)
def jo (s:LnS) (acc:Bool):Int×Bool×Bool:=if s.gone then (s.row,true,false) else if acc then (0,false,false) else (s.row+1,s.row+1==s.most,s.row+1==s.most)
def qX (s:LnS) (acc:Bool):LnS×Int×Int×Bool:=
 match s.C with
 | []=>(s,0,0,false)
 | o::C=>
  if (jo s acc).2.2 then ({s with A:=[],B:=[],C:=[],W:=if acc then s.W++[o] else s.W,row:=(jo s acc).1,gone:=(jo s acc).2.1},o.1,7,true)
  else ({s with C:=if acc then C else o::C,W:=if acc then s.W++[o] else s.W,row:=(jo s acc).1,gone:=(jo s acc).2.1},o.1,if acc then 1 else 0,true)
def jO (s:LnS) (n:Int):LnS×Int:=
 if jj n=false then (s,1) else if s.gone then (s,7) else ({s with wanted:=true,cur:=if s.wanted then s.cur else -1,tgt:=n},0)
def zb {α β:Type} (p:α->β->Prop):List α->List β->Prop
 | [],[]=>True
 | a::l,b::m=>p a b/\zb p l m
 | _,_=>False
section
variable {α β:Type} {p p':α->β->Prop}
theorem zb.len: ∀{l:List α} {m:List β},zb p l m->l.length=m.length
 | [],[],_=>rfl
 | _::_,_::_,h=>by simp[zb.len h.2]
 | [],_::_,h=>h.elim
 | _::_,[],h=>h.elim
theorem zb.mono (k: ∀a b,p a b->p' a b): ∀{l:List α} {m:List β},zb p l m->zb p' l m
 | [],[],_=>trivial
 | _::_,_::_,h=>⟨k _ _ h.1,zb.mono k h.2⟩
 | [],_::_,h=>h.elim
 | _::_,[],h=>h.elim
theorem zb.snoc: ∀{l:List α} {m:List β} {a:α} {b:β},zb p l m->p a b->zb p (l++[a]) (m++[b])
 | [],[],_,_,_,k=>⟨k,trivial⟩
 | _::_,_::_,_,_,h,k=>⟨h.1,zb.snoc h.2 k⟩
 | [],_::_,_,_,h,_=>h.elim
 | _::_,[],_,_,h,_=>h.elim
theorem zb.uncons {l:List α} {b:β} {m:List β} (h:zb p l (b::m)): ∃a l',l=a::l'/\p a b/\zb p l' m:=by
 cases l with
 | nil=>exact h.elim
 | cons a l'=>exact⟨a,l',rfl,h.1,h.2⟩
theorem zb.nil_r {l:List α} (h:zb p l ([]:List β)):l=[]:=by
 cases l with
 | nil=>rfl
 | cons a l'=>exact h.elim
theorem zb.mem {l:List α} {m:List β} (h:zb p l m): ∀a∈l,∃b∈m,p a b:=by
 induction l generalizing m with
 | nil=>intro a d;simp at d
 | cons c l ih=>
  cases m with
  | nil=>exact h.elim
  | cons b m=>
   intro a d;rcases List.mem_cons.1 d with rfl | d
   ·exact⟨b,η,h.1⟩
   ·obtain⟨I,H,G⟩:=ih h.2 a d;exact⟨I,by simp[H],G⟩
end
def itC (x:ItS) (vs ve vp:Value):List Value:=[.int .i64 x.id,.int .i64 x.layer,.bool x.key,.bool x.pk.mr,.int .u8 x.pk.ty,.int .u16 x.pk.sq,.int .u32 x.pk.st,.int .u32 x.pk.sc,vs,.bool x.pk.has,.int .u16 x.pk.pr,ve,vp]
def RIt:qL ItS:=λw cs x=> ∃vs ve vp,cs=itC x vs ve vp/\PkS w vs ve vp x.pk/\uf x.pk/\jJ x.pk=true
def RCh:qL (ItS×Bool):=λw cs x=> ∃vs ve vp,cs=itC x.1 vs ve vp++[.bool x.2]/\PkS w vs ve vp x.1.pk/\uf x.1.pk/\jJ x.1.pk=true
def ROu:qL (Int×List Int):=λw cs o=> ∃v,cs=[.int .i64 o.1,v]/\SlI .u8 w v o.2/\Byt o.2/\o.2.length<=200
theorem Ff:QQ ROu:=λ_ _ _ _ m ⟨v,H,G,d⟩=>⟨v,H,G.keep m,d⟩
theorem jw.chosen {D:Nat->Prop} {w:World} {c:List Value} {x:ItS} (f:Bool) (h:jw RIt D w c x):jw RCh D w (c++[μ f]) (x,f):=λw' a=>by
 obtain⟨I,H,vp,rfl,J,G,d⟩:=h w' a;exact⟨I,H,vp,rfl,J,G,d⟩
def RgR {α:Type} (n tr te:Nat) (R:qL α) (D:Nat->Prop) (w:World) (r a room:Nat) (l:List α):Prop:=
 ∃f q ci co cd cg css,qN n tr te w r a room f q ci co cd cg css/\zb (jw R D w) q l
section
variable {α:Type} {n tr te:Nat} {R:qL α} {D D':Nat->Prop} {w w':World} {r a room:Nat} {l:List α}
theorem RgR.fit (h:RgR n tr te R D w r a room l):l.length<=room/\1<=room/\room<=8/\r<w.heap.size/\a<w.heap.size:=by
 obtain⟨f,q,J,I,M,H,css,d,G⟩:=h;have:=d.fits;have:=G.len;have:=d.pos;exact⟨τ,τ,τ,qn d.ring,qn d.row⟩
theorem RgR.step {S:Nat->Prop} (h:RgR n tr te R D w r a room l) (k:qg S w w') (O: ¬S r) (Y: ¬S a) (N: ∀b,S b->D b) (G: ∀b,D' b->D b∨w'.heap.size<=b):RgR n tr te R D' w' r a room l:=by
 obtain⟨f,q,J,I,U,d,css,H,aa⟩:=h;exact⟨f,q,J,I,U,d,css,H.away k O Y,aa.mono λc y M=>(M.step (k.mono N)).other G⟩
end
def Γj (x:ItS) (a:Option Addr) (b:Nat) (c:Option Addr) (d:Nat) (e:Option Addr) (f:Nat):Mm:=.o
instance (x:ItS) (a:Option Addr) (b:Nat) (c:Option Addr) (d:Nat) (e:Option Addr) (f:Nat):CoeDep Mm (Γj x a b c d e f) (List Value):=⟨[ι x.id,ι x.layer,μ x.key,μ x.pk.mr,υ x.pk.ty,φ x.pk.sq,ω x.pk.st,ω x.pk.sc,δ a x.pk.ss.length b,μ x.pk.has,φ x.pk.pr,δ c x.pk.ex.length d,δ e x.pk.pl.length f]⟩
instance (x:ItS) (a:Option Addr) (b:Nat) (c:Option Addr) (d:Nat) (e:Option Addr) (f:Nat):CoeDep Mm (Γj x a b c d e f) (Array Value):=⟨#[ι x.id,ι x.layer,μ x.key,μ x.pk.mr,υ x.pk.ty,φ x.pk.sq,ω x.pk.st,ω x.pk.sc,δ a x.pk.ss.length b,μ x.pk.has,φ x.pk.pr,δ c x.pk.ex.length d,δ e x.pk.pl.length f]⟩
instance (x:ItS) (a:Option Addr) (b:Nat) (c:Option Addr) (d:Nat) (e:Option Addr) (f:Nat):CoeDep Mm (Γj x a b c d e f) Value:=⟨θ #[ι x.id,ι x.layer,μ x.key,μ x.pk.mr,υ x.pk.ty,φ x.pk.sq,ω x.pk.st,ω x.pk.sc,δ a x.pk.ss.length b,μ x.pk.has,φ x.pk.pr,δ c x.pk.ex.length d,δ e x.pk.pl.length f]⟩
def Γk (x:ItS) (a:Option Addr) (b:Nat) (c:Option Addr) (d:Nat) (e:Option Addr) (f:Nat) (g:Bool):Mm:=.o
instance (x:ItS) (a:Option Addr) (b:Nat) (c:Option Addr) (d:Nat) (e:Option Addr) (f:Nat) (g:Bool):CoeDep Mm (Γk x a b c d e f g) (List Value):=⟨[ι x.id,ι x.layer,μ x.key,μ x.pk.mr,υ x.pk.ty,φ x.pk.sq,ω x.pk.st,ω x.pk.sc,δ a x.pk.ss.length b,μ x.pk.has,φ x.pk.pr,δ c x.pk.ex.length d,δ e x.pk.pl.length f,μ g]⟩
instance (x:ItS) (a:Option Addr) (b:Nat) (c:Option Addr) (d:Nat) (e:Option Addr) (f:Nat) (g:Bool):CoeDep Mm (Γk x a b c d e f g) (Array Value):=⟨#[ι x.id,ι x.layer,μ x.key,μ x.pk.mr,υ x.pk.ty,φ x.pk.sq,ω x.pk.st,ω x.pk.sc,δ a x.pk.ss.length b,μ x.pk.has,φ x.pk.pr,δ c x.pk.ex.length d,δ e x.pk.pl.length f,μ g]⟩
instance (x:ItS) (a:Option Addr) (b:Nat) (c:Option Addr) (d:Nat) (e:Option Addr) (f:Nat) (g:Bool):CoeDep Mm (Γk x a b c d e f g) Value:=⟨θ #[ι x.id,ι x.layer,μ x.key,μ x.pk.mr,υ x.pk.ty,φ x.pk.sq,ω x.pk.st,ω x.pk.sc,δ a x.pk.ss.length b,μ x.pk.has,φ x.pk.pr,δ c x.pk.ex.length d,δ e x.pk.pl.length f,μ g]⟩
theorem wQ (v:Value) (l:List Int) (w:World) (h:SlI .u8 w v l) (ak:l.length<=1000000):
  Calls prog 46 #[v] w λe w'=>(∃v',e= .returned v'/\w'.ownsRow w.heap.size 5 1 v' l.length (l.map (Value.int .u8)))/\qa w w':=by
 obtain⟨ah,hi,ag,af,ac⟩:=info_parts (P:=prog) (e:=5) (z:= υ 0) (size:=1) (bytes:=1) ξ;have J:=κ h;obtain⟨ae,cap,rfl,U,N,I,M,d⟩:=h;cases ae with
 | none=>
  obtain rfl:cap=0:=d rfl;obtain rfl:l=[]:=List.eq_nil_of_length_eq_zero τ;clear J U N I M d;have ab:=λw=>Lib.run_eql_slice_nil (P:=prog) w 34 5 none 0 0 0 0 underlying34
  go_enter func46,ntmps46
  go_wp2;go_ret;exact⟨⟨_,rfl,World.ownsRow_nil w _ _ _⟩,qa.refl _⟩
 | some ad=>
  clear U N I M d;have O:(w.alloc (.cells #[] 5)).ownsRow w.heap.size 5 1 (δ (some ⟨w.heap.size,0,none⟩) 0 0) ([]:List Int).length (([]:List Int).map (Value.int .u8)):=World.ownsRow_lit (e:=5) (size:=1) (base:=w.heap.size) w #[] 0 (Nat.le_refl _) (by unfold maxLen;omega) rfl;have Y:=κ O;clear O;have ab:=λw=>Lib.run_eql_slice_nil (P:=prog) w 34 5 (some ad) l.length cap 0 0 underlying34
  go_enter func46,ntmps46
  go_wp2_with (at_builtin;refine xr _ rfl (.tmp 5) (.tmp 6) 34 rfl w.heap.size 5 ah (υ 0) 1 underlying34 hi ag af ac rfl _ .u8 [] rfl Y.o _ l rfl (J.o.keep (qa.alloc _ _)) (by simp;omega) ζ (qa.alloc w _).size ?_;intro v2 w2 H G;have aa:=κ H;have aj:Hid (qg (λb=>(δ (some ⟨w.heap.size,0,none⟩) 0 0).ownBlock=some b) (w.alloc (.cells #[] 5)) w2):=κ (qg.of_grown G);clear H G)
  go_ret;refine⟨⟨_,rfl,by simpa using aa.o⟩, ?_⟩;exact((qg.of_more (S:=λb=>b=w.heap.size) (qa.alloc w _)).trans (aj.o.mono λb ai=>by injection ai with e;exact e.symm)).to_more (qa.refl _) (λk e=>by rw[e];exact Nat.le_refl _)
theorem Ad (v:Value) (l:List Int) (w:World) (h:SlI .u32 w v l) (ak:l.length<=1000000):
  Calls prog 45 #[v] w λe w'=>(∃v',e= .returned v'/\w'.ownsRow w.heap.size 37 1 v' l.length (l.map (Value.int .u32)))/\qa w w':=by
 obtain⟨ah,hi,ag,af,ac⟩:=info_parts (P:=prog) (e:=37) (z:= ω 0) (size:=1) (bytes:=4) ξ;have J:=κ h;obtain⟨ae,cap,rfl,U,N,I,M,d⟩:=h;cases ae with
 | none=>
  obtain rfl:cap=0:=d rfl;obtain rfl:l=[]:=List.eq_nil_of_length_eq_zero τ;clear J U N I M d;have ab:=λw=>Lib.run_eql_slice_nil (P:=prog) w 53 37 none 0 0 0 0 underlying53
  go_enter func45,ntmps45
  go_wp2;go_ret;exact⟨⟨_,rfl,World.ownsRow_nil w _ _ _⟩,qa.refl _⟩
 | some ad=>
  clear U N I M d;have O:(w.alloc (.cells #[] 37)).ownsRow w.heap.size 37 1 (δ (some ⟨w.heap.size,0,none⟩) 0 0) ([]:List Int).length (([]:List Int).map (Value.int .u32)):=World.ownsRow_lit (e:=37) (size:=1) (base:=w.heap.size) w #[] 0 (Nat.le_refl _) (by unfold maxLen;omega) rfl;have Y:=κ O;clear O;have ab:=λw=>Lib.run_eql_slice_nil (P:=prog) w 53 37 (some ad) l.length cap 0 0 underlying53
  go_enter func45,ntmps45
  go_wp2_with (at_builtin;refine xr _ rfl (.tmp 5) (.tmp 6) 53 rfl w.heap.size 37 ah (ω 0) 4 underlying53 hi ag af ac rfl _ .u32 [] rfl Y.o _ l rfl (J.o.keep (qa.alloc _ _)) (by simp;omega) ζ (qa.alloc w _).size ?_;intro v2 w2 H G;have aa:=κ H;have aj:Hid (qg (λb=>(δ (some ⟨w.heap.size,0,none⟩) 0 0).ownBlock=some b) (w.alloc (.cells #[] 37)) w2):=κ (qg.of_grown G);clear H G)
  go_ret;refine⟨⟨_,rfl,by simpa using aa.o⟩, ?_⟩;exact((qg.of_more (S:=λb=>b=w.heap.size) (qa.alloc w _)).trans (aj.o.mono λb ai=>by injection ai with e;exact e.symm)).to_more (qa.refl _) (λk e=>by rw[e];exact Nat.le_refl _)
end Go.Proofs.YtdgippmmaponfaaGreat
