/- Contracts of the functions that the law reaches, and plain laws; no conditions but those written at each. -/
import Derived.Test.YtlmllmonabafjaaGreatDoorMg2
import Derived.IntWalk
import Derived.Deep.Cut
import Derived.Deep.CutRange
import Derived.Deep.CutBlock
import Derived.Laws.CopyRow
import Derived.Laws.Rows
import Derived.Laws.Tables
import Derived.Laws.MakeOwn
import Derived.Deep.MidRow
namespace Go.Proofs.YtlmllmonabafjaaGreatDoor
open Go.Value renaming bool->μ,slice->δ,pointer->π,agg->θ
open Go.IntKind renaming i64->ι,u8->υ,u16->φ,u32->ω,i32->χ,u64->ψ
open _root_.Go.Proofs.Tryz
set_option linter.unusedSimpArgs false
set_option maxHeartbeats 8000000
set_option linter.unusedVariables false
open Go.RowKit Go.ChangeShapes
set_option maxRecDepth 100000
structure PkS (w:World) (vs ve vp:Value) (p:Pk):Prop where
 s:SlI .u32 w vs p.ss
 e:SlI .u8 w ve p.ex
 l:SlI .u8 w vp p.pl
theorem PkS.keep {w w':World} {G d vp:Value} {p:Pk} (h:PkS w G d vp p) (m:qa w w'):PkS w' G d vp p:=⟨h.s.keep m,h.e.keep m,h.l.keep m⟩
structure uj (p:Pk):Prop where
 s:p.ss.length<=1000000
 e:p.ex.length<=1000000
 l:p.pl.length<=1000000
theorem Do (p:Pk) (H G vp:Value) (w:World) (h:PkS w H G vp p) (I:uj p):
  Calls prog 154 #[(Γq p H G vp)] w λe w'=>e= .returned (ι (ww p))/\qa w w':=by
 obtain⟨⟨os,N,rfl,_⟩,⟨ab,ke,rfl,_⟩,⟨ac,J,rfl,_⟩⟩:=h;obtain⟨O,U,Y⟩:=I;have d:ww p=12+4* (p.ss.length:Int)+(p.pl.length:Int)+if p.has then 4+(p.ex.length:Int) else 0:=rfl
 rw[d];clear d;obtain⟨aa,ae,sq,st,sc,ss,has,ad,ex,pl⟩:=p;simp only at *;generalize ss.length=a at *;generalize ex.length=b at *;generalize pl.length=c at *;cases has with
 | true=>
  go_enter func154,ntmps154
  go_wp2;go_ret;exact⟨xV (by simp only[if_true];try omega),qa.alloc _ _⟩
 | false=>
  go_enter func154,ntmps154
  go_wp2;go_ret;exact⟨xV (by simp only[Bool.false_eq_true,if_false];try omega),qa.alloc _ _⟩
theorem gc (p:Pk) (ag af vp:Value) (w:World) (h:PkS w ag af vp p) (aj:uj p):
  Calls prog 92 #[(Γq p ag af vp)] w λe w'=>e= .returned (μ (jJ p))/\qa w w':=by
 have Y:=κ h;have I:=yq p;have aa:=κ (λw' al=>Do p ag af vp w' al aj);obtain⟨⟨os,ar,rfl,_⟩,⟨ax,ke,rfl,an⟩,⟨ay,aq,rfl,_⟩⟩:=h;clear an;obtain⟨au,d,av⟩:=aj;obtain⟨ak,ae⟩:=ν (ww p);rw[ae] at I;have ab:=κ ae;clear ae;obtain⟨R,ah⟩:=ν (jJ p);rw[ah] at I ⊢;clear ah;obtain⟨aw,ao,sq,st,sc,ss,ac,U,N,az⟩:=p;simp only at *;have ai:N=[]↔N.length=0:=List.length_eq_zero_iff.symm;rw[ai] at I;clear ai;by_cases h1:ao<=127
 ·by_cases h2:(ss.length:Int)<=15
  ·by_cases H:ac=false/\ ¬(U=0)
   ·obtain⟨rfl,H⟩:=H
    have J:Hid (R=false):=κ (by
     cases R with
     | false=>rfl
     | true=>exact absurd ((I.1 rfl).2.2.1 rfl).1 H)
    have ad:(U != 0)=true:=by simpa using H
    clear I H
    go_enter func92,ntmps92
    go_wp2_with (go_at_call 154;(go_call aa.o _ (Y.o.keep (qa.alloc _ _)) as e w2 ⟨rfl,d⟩;rw[ab.o];have G:=κ d;clear d))
    go_ret;exact⟨by rw[J.o];first | rfl | (simp;omega),by first | exact qa.alloc _ _ | exact(qa.alloc _ _).trans G.o⟩
   ·by_cases O:ac=false/\ ¬(N.length=0)
    ·obtain⟨rfl,O⟩:=O
     have J:Hid (R=false):=κ (by
      cases R with
      | false=>rfl
      | true=>exact absurd ((I.1 rfl).2.2.1 rfl).2 O)
     obtain rfl:U=0:=by
      by_cases e:U=0
      ·exact e
      ·exact absurd ⟨rfl,e⟩ H
     have ad:(0:Int)<(N.length:Int):=by omega
     clear I H O
     go_enter func92,ntmps92
     go_wp2_with (go_at_call 154;(go_call aa.o _ (Y.o.keep (qa.alloc _ _)) as e w2 ⟨rfl,d⟩;rw[ab.o];have G:=κ d;clear d))
     go_ret;exact⟨by rw[J.o];first | rfl | (simp;omega),by first | exact qa.alloc _ _ | exact(qa.alloc _ _).trans G.o⟩
    ·by_cases h5:(N.length:Int)%4=0
     ·have am:((N.length:Int)).tmod 4=0:=by rw[Int.tmod_eq_emod_of_nonneg τ];exact h5
      by_cases h6:ak<=200
      ·have J:Hid (R=true):=κ (I.2 ⟨h1,h2,λe=>⟨by
        by_cases z:U=0
        ·exact z
        ·exact absurd ⟨e,z⟩ H,by
        by_cases z:N.length=0
        ·exact z
        ·exact absurd ⟨e,z⟩ O⟩,h5,h6⟩)
       clear I h5;cases ac with
       | true=>
        clear H O
        go_enter func92,ntmps92
        go_wp2_with (go_at_call 154;(go_call aa.o _ (Y.o.keep (qa.alloc _ _)) as e w2 ⟨rfl,d⟩;rw[ab.o];have G:=κ d;clear d))
        go_ret;exact⟨by rw[J.o];first | rfl | (simp;omega),by first | exact qa.alloc _ _ | exact(qa.alloc _ _).trans G.o⟩
       | false=>
        obtain rfl:U=0:=by
         by_cases e:U=0
         ·exact e
         ·exact absurd ⟨rfl,e⟩ H
        have ad: ¬(0:Int)<(N.length:Int):=by
         by_cases e:N.length=0
         ·omega
         ·exact absurd ⟨rfl,e⟩ O
        clear H O
        go_enter func92,ntmps92
        go_wp2_with (go_at_call 154;(go_call aa.o _ (Y.o.keep (qa.alloc _ _)) as e w2 ⟨rfl,d⟩;rw[ab.o];have G:=κ d;clear d))
        go_ret;exact⟨by rw[J.o];first | rfl | (simp;omega),by first | exact qa.alloc _ _ | exact(qa.alloc _ _).trans G.o⟩
      ·have J:Hid (R=false):=κ (by
        cases R with
        | false=>rfl
        | true=>exact absurd (I.1 rfl).2.2.2.2 h6)
       clear I h5;cases ac with
       | true=>
        clear H O
        go_enter func92,ntmps92
        go_wp2_with (go_at_call 154;(go_call aa.o _ (Y.o.keep (qa.alloc _ _)) as e w2 ⟨rfl,d⟩;rw[ab.o];have G:=κ d;clear d))
        go_ret;exact⟨by rw[J.o];first | rfl | (simp;omega),by first | exact qa.alloc _ _ | exact(qa.alloc _ _).trans G.o⟩
       | false=>
        obtain rfl:U=0:=by
         by_cases e:U=0
         ·exact e
         ·exact absurd ⟨rfl,e⟩ H
        have ad: ¬(0:Int)<(N.length:Int):=by
         by_cases e:N.length=0
         ·omega
         ·exact absurd ⟨rfl,e⟩ O
        clear H O
        go_enter func92,ntmps92
        go_wp2_with (go_at_call 154;(go_call aa.o _ (Y.o.keep (qa.alloc _ _)) as e w2 ⟨rfl,d⟩;rw[ab.o];have G:=κ d;clear d))
        go_ret;exact⟨by rw[J.o];first | rfl | (simp;omega),by first | exact qa.alloc _ _ | exact(qa.alloc _ _).trans G.o⟩
     ·have am:(((N.length:Int)).tmod 4==0)=false:=by
       rw[beq_eq_false_iff_ne,Int.tmod_eq_emod_of_nonneg τ];exact h5
      have ap:((N.length:Int)%4==0)=false:=by rw[beq_eq_false_iff_ne];exact h5
      have J:Hid (R=false):=κ (by
       cases R with
       | false=>rfl
       | true=>exact absurd (I.1 rfl).2.2.2.1 h5)
      clear I h5;cases ac with
      | true=>
       clear H O
       go_enter func92,ntmps92
       go_wp2_with (go_at_call 154;(go_call aa.o _ (Y.o.keep (qa.alloc _ _)) as e w2 ⟨rfl,d⟩;rw[ab.o];have G:=κ d;clear d))
       go_ret;exact⟨by rw[J.o];first | rfl | (simp;omega),by first | exact qa.alloc _ _ | exact(qa.alloc _ _).trans G.o⟩
      | false=>
       obtain rfl:U=0:=by
        by_cases e:U=0
        ·exact e
        ·exact absurd ⟨rfl,e⟩ H
       have ad: ¬(0:Int)<(N.length:Int):=by
        by_cases e:N.length=0
        ·omega
        ·exact absurd ⟨rfl,e⟩ O
       clear H O
       go_enter func92,ntmps92
       go_wp2_with (go_at_call 154;(go_call aa.o _ (Y.o.keep (qa.alloc _ _)) as e w2 ⟨rfl,d⟩;rw[ab.o];have G:=κ d;clear d))
       go_ret;exact⟨by rw[J.o];first | rfl | (simp;omega),by first | exact qa.alloc _ _ | exact(qa.alloc _ _).trans G.o⟩
  ·have J:Hid (R=false):=κ (by
    cases R with
    | false=>rfl
    | true=>exact absurd (I.1 rfl).2.1 h2)
   have ad:(15:Int)<(ss.length:Int):=by omega
   clear I
   go_enter func92,ntmps92
   go_wp2_with (go_at_call 154;(go_call aa.o _ (Y.o.keep (qa.alloc _ _)) as e w2 ⟨rfl,d⟩;rw[ab.o];have G:=κ d;clear d))
   go_ret;exact⟨by rw[J.o];first | rfl | (simp;omega),by first | exact qa.alloc _ _ | exact(qa.alloc _ _).trans G.o⟩
 ·have J:Hid (R=false):=κ (by
   cases R with
   | false=>rfl
   | true=>exact absurd (I.1 rfl).1 h1)
  clear I
  go_enter func92,ntmps92
  go_wp2_with (go_at_call 154;(go_call aa.o _ (Y.o.keep (qa.alloc _ _)) as e w2 ⟨rfl,d⟩;rw[ab.o];have G:=κ d;clear d))
  go_ret;exact⟨by rw[J.o];first | rfl | (simp;omega),by first | exact qa.alloc _ _ | exact(qa.alloc _ _).trans G.o⟩
def Zd (b:List Int):Bool:=decide (2<=b.length)&&decide (192<=b.getD 1 0)&&decide (b.getD 1 0<=223)
theorem V3 (v:Value) (b:List Int) (w:World) (I:SlI .u8 w v b):
  Calls prog 129 #[v] w λe w'=>e= .returned (μ (Zd b))/\w=w':=by
 obtain⟨aa,N,rfl,Y,d,_⟩:=I;have G:Zd b=(decide (2<=b.length)&&decide (192<=b.getD 1 0)&&decide (b.getD 1 0<=223)):=rfl;rw[G];clear G;by_cases h2:2<=b.length
 ·obtain⟨J,ab,rfl,O,U⟩:=d 1 τ;have H:(2:Int)<=(b.length:Int):=by omega
  rw[decide_eq_true h2];clear d;generalize b.getD 1 0=x at *;by_cases h3:192<=x
  ·by_cases h4:x<=223
   ·go_enter func129,ntmps129
    go_wp2;go_ret;simp[h3,h4]
   ·go_enter func129,ntmps129
    go_wp2;go_ret;simp[h3,h4]
  ·go_enter func129,ntmps129
   go_wp2;go_ret;simp[h3]
   try omega
 ·have H: ¬(2:Int)<=(b.length:Int):=by omega
  rw[decide_eq_false h2];clear d
  go_enter func129,ntmps129
  go_wp2;go_ret;simp
section
open Go.RowKit
def WrX (w0 w:World) (W B:Nat) (o:Obj) (l:List Int):Prop:= ∃v,WrK w0 w W v l B o
theorem WrX.start {w w2:World} {o:Obj} (m:qa (w.alloc o) w2):WrK w (w2.alloc (.cells #[δ none 0 0] 204)) w2.heap.size (δ none 0 0) [] w.heap.size o:=by
 have d:w.heap.size<w2.heap.size:=qn (qc m (qj w o));exact⟨wR w2,((qa.alloc w o).trans m).al _,Nat.le_of_lt d,qs (qc m (qj w o)) _,τ,by simp[Value.ownBlock]⟩
theorem WrX.cell {d w:World} {W B:Nat} {cs:Array Value} {t:TypeId} {l:List Int} (h:WrX d w W B (.cells cs t (0,0)) l) (i:Nat) {v:Value} (hi:cs[i]? =some v):w.cell? ⟨B,i,none⟩=some v:=by
 obtain⟨v',k⟩:=h;exact qb k.keep i hi
theorem WrX.more {d w:World} {W B:Nat} {o:Obj} {l:List Int} (h:WrX d w W B o l):qa d w:=by
 obtain⟨v',k⟩:=h;exact k.more
theorem ju (n s:Int):(qy n s).length<=8:=by
 unfold qy;split
 ·rw[zP];omega
 ·simp
theorem uj.of_right {p:Pk} (h:jJ p=true):uj p/\p.ss.length<=15/\p.ex.length<=200/\p.pl.length<=200:=by
 obtain⟨J,N,G,O,d⟩:=(yq p).1 h;unfold ww at d;have H:p.ex.length<=200:=by
  cases hh:p.has with
  | false=>rw[(G hh).2];simp
  | true=>rw[hh] at d;simp only[if_true] at d;omega
 have I:p.pl.length<=200:=by split at d<;>omega
 exact⟨⟨τ,τ,τ⟩,τ,H,I⟩
theorem gi (p:Pk) (aB aA vp:Value) (w:World) (h:PkS w aB aA vp p) (ao:uf p) (ay:jJ p=true):
  Calls prog 37 #[(Γq p aB aA vp)] w λe w'=>(∃v,e= .returned (.tuple #[v,ι 0])/\w'.ownsRow w.heap.size 5 1 v (pkB p).length ((pkB p).map (Value.int .u8)))/\qa w w':=by
 obtain⟨bU,cv,cw,cx⟩:=uj.of_right ay;have ax:=κ h;have bC:=κ (gc p aB aA vp (w.alloc (.cells (Γq p aB aA vp) 63)) (h.keep (qa.alloc _ _)) bU);have bS:=(yq p).1 ay;have bB:=κ ay;obtain⟨⟨os,au,rfl,_⟩,⟨av,ke,rfl,bT⟩,⟨aw,ar,rfl,_⟩⟩:=h;clear bT;have t1:=ao.ty;have t2:=ao.sq;have t3:=ao.st;have t4:=ao.sc;have bZ:=ao.pr;have bD:=κ ao.ss;obtain⟨ck,cl,bO,cm,_⟩:=bS;obtain⟨ab,aJ,o2,bi⟩: ∃ab,(p.has=false->ab=128+(p.ss.length:Int))/\(p.has=true->ab=128+(p.ss.length:Int)+16)/\ab=CT p:=⟨_,λe=>by simp[CT,e],λe=>by simp[CT,e],rfl⟩;obtain⟨ac,aK,aL,bj⟩: ∃ac,(p.mr=false->ac=p.ty)/\(p.mr=true->ac=p.ty+128)/\ac=CN p:=⟨_,λe=>by simp[CN,e],λe=>by simp[CN,e],rfl⟩;have bP:0<=ab/\ab<=255:=by
  cases hh:p.has with
  | false=>rw[aJ hh];omega
  | true=>rw[o2 hh];omega
 have bQ:0<=ac/\ac<=255:=by
  cases hh:p.mr with
  | false=>rw[aK hh];omega
  | true=>rw[aL hh];omega
 have aH:pkB p=qy ab 1++qy ac 1++qy p.sq 2++qy p.st 4++qy p.sc 4++ssB p.ss++(if p.has then qy p.pr 2++qy ((p.ex.length:Int)/4) 2++p.ex else [])++p.pl:=by
  rw[bi,bj];rfl
 obtain⟨ap,aE,aF,aO⟩: ∃ap,(p.has=false->ap=[])/\(p.has=true->ap=qy p.pr 2++qy ((p.ex.length:Int)/4) 2++p.ex)/\ap=if p.has then qy p.pr 2++qy ((p.ex.length:Int)/4) 2++p.ex else []:=⟨if p.has then qy p.pr 2++qy ((p.ex.length:Int)/4) 2++p.ex else [],λe=>by simp[e],λe=>by simp[e],rfl⟩
 rw[<-aO] at aH;have cu:ap.length<=300:=by
  have:=ju p.pr 2;have:=ju ((p.ex.length:Int)/4) 2;cases hh:p.has with
  | false=>rw[aE hh];simp
  | true=>rw[aF hh];simp only[List.length_append];omega
 rw[aH];clear ay ao aH bi bj aO;obtain⟨mr,ty,sq,st,sc,ss,has,pr,ex,pl⟩:=p;simp only at *;have bJ:=κ aJ;have bK:=κ o2;have bL:=κ aK;have bM:=κ aL;have bu:=κ aE;have bv:=κ aF;have w1:IntKind.i64.wrap (128+(ss.length:Int))=128+(ss.length:Int):=IntWalk.i64_in _ τ;have bW:IntKind.u8.wrap (128+(ss.length:Int))=128+(ss.length:Int):=by
  show (128+(ss.length:Int))%256=_;omega
 obtain⟨s0,s1⟩:=t2;obtain⟨cC,cD⟩:=bP;obtain⟨cA,cB⟩:=bQ;obtain⟨t0,t1⟩:=t1;obtain⟨a0,ce⟩:=t3;obtain⟨cf,cg⟩:=t4;obtain⟨ci,c1⟩:=bZ;clear aJ o2 aK aL aE aF bO
 go_enter func37,ntmps37
 go_upto_region 3 with (go_at_call 92;(go_call bC.o as e wr ⟨rfl,aI⟩;rw[bB.o];have bH:=κ aI;have an:=κ (qc aI (qj w (.cells #[μ mr,υ ty,φ sq,ω st,ω sc,δ os ss.length au,has,φ pr,δ av ex.length ke,δ aw pl.length ar] 63)));clear aI;have d:=λn=>β0 (qr an.o n);have G:=λn=>β1 (qr an.o n);have H:=λn=>β2 (qr an.o n);have I:=λn=>β3 (qr an.o n);have J:=λn=>β4 (qr an.o n);have N:=λn=>β5 (qr an.o n);have O:=λn=>β6 (qr an.o n);have U:=λn=>β7 (qr an.o n);have Y:=λn=>β8 (qr an.o n);have aa:=λn=>β9 (qr an.o n)))
 go_quiet (fail)
 clear w1 bW
 go_upto_if 21 with fail
 go_cut [4] from 20 (λbX aq=>bX= υ ab/\aq=wr.drewN nq)
 case first=>
  cases has with
  | false=>
   go_wp2;go_meet;exact⟨by rw[bJ.o η],rfl⟩
  | true=>
   go_wp2;go_meet;exact⟨by rw[bK.o η],rfl⟩
 case rest=>
 obtain⟨rfl,rfl⟩:=hcut
 go_upto_if 26 with fail
 go_cut [5] from 24 (λbY aq=>bY= υ ac/\aq=wr.drewN nq)
 case first=>
  cases mr with
  | false=>
   go_wp2;go_meet;exact⟨by rw[bL.o η],rfl⟩
  | true=>
   go_wp2;go_meet;exact⟨by rw[bM.o η],rfl⟩
 case rest=>
 obtain⟨rfl,rfl⟩:=hcut;have bI:Hid (qa (w.alloc (.cells #[μ mr,υ ty,φ sq,ω st,ω sc,δ os ss.length au,has,φ pr,δ av ex.length ke,δ aw pl.length ar] 63)) (wr.drewN nq)):=κ (bH.o.dr nq);have ae:=κ (WrX.start bI.o);generalize wr.drewN nq=W3 at *;clear d G H I J N O U Y aa;have d:=β0 ae.o.keep;have G:=β1 ae.o.keep;have H:=β2 ae.o.keep;have I:=β3 ae.o.keep;have J:=β4 ae.o.keep;have N:=β5 ae.o.keep;have O:=β6 ae.o.keep;have U:=β7 ae.o.keep;have Y:=β8 ae.o.keep;have aa:=β9 ae.o.keep
 go_wp2_with first | (go_at_call 93;((with_reducible refine(wk ae.o.wr ab τ ζ).mono ?_);rintro e w10 ⟨rfl,bk⟩;obtain⟨v10,aV⟩:=ae.o.wrote bk;have af:=κ aV;clear aV bk d G H I J N O U Y aa;have d:=β0 af.o.keep;have G:=β1 af.o.keep;have H:=β2 af.o.keep;have I:=β3 af.o.keep;have J:=β4 af.o.keep;have N:=β5 af.o.keep;have O:=β6 af.o.keep;have U:=β7 af.o.keep;have Y:=β8 af.o.keep;have aa:=β9 af.o.keep)) | (go_at_call 93;((with_reducible refine(wk af.o.wr ac τ (by have:=ju ab 1;have:=ju ac 1;have:=ju sq 2;have:=ju st 4;have:=ju sc 4;simp only[List.length_append,List.length_nil];omega)).mono ?_);rintro e ca ⟨rfl,bl⟩;obtain⟨v11,bb⟩:=af.o.wrote bl;have ai:=κ bb;clear bb bl d G H I J N O U Y aa;have d:=β0 ai.o.keep;have G:=β1 ai.o.keep;have H:=β2 ai.o.keep;have I:=β3 ai.o.keep;have J:=β4 ai.o.keep;have N:=β5 ai.o.keep;have O:=β6 ai.o.keep;have U:=β7 ai.o.keep;have Y:=β8 ai.o.keep;have aa:=β9 ai.o.keep)) | (go_at_call 94;(go_call kU ai.o.wr sq τ (by have:=ju ab 1;have:=ju ac 1;have:=ju sq 2;have:=ju st 4;have:=ju sc 4;simp only[List.length_append,List.length_nil];omega) as e cb ⟨rfl,bq⟩;obtain⟨v12,bc⟩:=ai.o.wrote bq;have aj:=κ bc;clear bc bq d G H I J N O U Y aa;have d:=β0 aj.o.keep;have G:=β1 aj.o.keep;have H:=β2 aj.o.keep;have I:=β3 aj.o.keep;have J:=β4 aj.o.keep;have N:=β5 aj.o.keep;have O:=β6 aj.o.keep;have U:=β7 aj.o.keep;have Y:=β8 aj.o.keep;have aa:=β9 aj.o.keep)) | (go_at_call 95;((with_reducible refine(uw aj.o.wr st τ (by have:=ju ab 1;have:=ju ac 1;have:=ju sq 2;have:=ju st 4;have:=ju sc 4;simp only[List.length_append,List.length_nil];omega)).mono ?_);rintro e cc ⟨rfl,br⟩;obtain⟨v13,bd⟩:=aj.o.wrote br;have ak:=κ bd;clear bd br d G H I J N O U Y aa;have d:=β0 ak.o.keep;have G:=β1 ak.o.keep;have H:=β2 ak.o.keep;have I:=β3 ak.o.keep;have J:=β4 ak.o.keep;have N:=β5 ak.o.keep;have O:=β6 ak.o.keep;have U:=β7 ak.o.keep;have Y:=β8 ak.o.keep;have aa:=β9 ak.o.keep)) | (go_at_call 95;((with_reducible refine(uw ak.o.wr sc τ (by have:=ju ab 1;have:=ju ac 1;have:=ju sq 2;have:=ju st 4;have:=ju sc 4;simp only[List.length_append,List.length_nil];omega)).mono ?_);rintro e cG ⟨rfl,bs⟩;obtain⟨v14,be⟩:=ak.o.wrote bs;have am:=κ be;clear be bs d G H I J N O U Y aa;have d:=β0 am.o.keep;have G:=β1 am.o.keep;have H:=β2 am.o.keep;have I:=β3 am.o.keep;have J:=β4 am.o.keep;have N:=β5 am.o.keep;have O:=β6 am.o.keep;have U:=β7 am.o.keep;have Y:=β8 am.o.keep;have aa:=β9 am.o.keep))
 have cd:=κ (ax.o.s.keep am.o.more);generalize aG:([]++qy ab 1++qy ac 1++qy sq 2++qy st 4++qy sc 4)=PX at *;have cr:PX.length<=100:=by rw[<-aG];exact(by have:=ju ab 1;have:=ju ac 1;have:=ju sq 2;have:=ju st 4;have:=ju sc 4;simp only[List.length_append,List.length_nil];omega)
 have bz:=κ aG;clear aG;clear ae af ai aj ak
 go_loopw [48] (λi aq=> ∃k:Nat,k<=ss.length/\i= ι k/\WrX w aq W3.heap.size w.heap.size (.cells #[μ mr,υ ty,φ sq,ω st,ω sc,δ os ss.length au,has,φ pr,δ av ex.length ke,δ aw pl.length ar] 63) (PX++ssB (ss.take k))) (λi _=>ss.length-(intOf i).toNat)
 case atStart=>exact⟨0,τ,rfl,_,by simpa [ssB] using am.o⟩
 case round=>
  obtain⟨k,ao,rfl,az⟩:=hrel;have ad:=κ az;have bR:(PX++ssB (ss.take k)).length<=10000:=by rw[List.length_append,WE,List.length_take];omega
  by_cases hlt:k<ss.length
  ·obtain⟨cy,cj,bN,_,aQ,_⟩:=ax.o.s.keep az.more;cases bN;obtain⟨ch,cz,rfl,cn,co⟩:=aQ k hlt;have cp:(k:Int)<(ss.length:Int):=by omega
   have aU:ss.take (k+1)=ss.take k++[ss.getD k 0]:=by rw[List.take_succ_eq_append_getElem hlt];simp[hlt]
   have aT:PX++ssB (ss.take (k+1))=PX++ssB (ss.take k)++qy (ss.getD k 0) 4:=by rw[aU,AP,List.append_assoc]
   have bE:=κ aT;have bV:=bD.o k;obtain⟨v7,bf⟩:=az;have aM:=κ bf;clear aQ aU aT bf;generalize ss.getD k 0=x at *;obtain⟨cE,cF⟩:=bV
   go_wp2_with (go_at_call 95;(go_call uw aM.o.wr x τ τ as e w8 ⟨rfl,bt⟩;obtain⟨v8,bg⟩:=aM.o.wrote bt;have bG:=κ bg;clear bg bt))
   go_roundw
   case rel=>exact⟨k+1,τ,by go_num,v8,by rw[bE.o];exact bG.o⟩
   case measure=>simp[intOf];omega
  ·obtain rfl:k=ss.length:=by omega
   rw[List.take_length] at ad bR;clear az;have d:=WrX.cell ad.o 0 (v:= μ mr) rfl;have G:=WrX.cell ad.o 1 (v:= υ ty) rfl;have H:=WrX.cell ad.o 2 (v:= φ sq) rfl;have I:=WrX.cell ad.o 3 (v:= ω st) rfl;have J:=WrX.cell ad.o 4 (v:= ω sc) rfl;have N:=WrX.cell ad.o 5 (v:= δ os ss.length au) rfl;have O:=WrX.cell ad.o 6 (v:= μ has) rfl;have U:=WrX.cell ad.o 7 (v:= φ pr) rfl;have Y:=WrX.cell ad.o 8 (v:= δ av ex.length ke) rfl;have aa:=WrX.cell ad.o 9 (v:= δ aw pl.length ar) rfl;generalize aP:PX++ssB ss=PY at *;have bA:=κ aP;clear aP
   go_upto_if 56 with fail
   go_cut [] from 57 (λaq=>WrX w aq W3.heap.size w.heap.size (.cells #[μ mr,υ ty,φ sq,ω st,ω sc,δ os ss.length au,has,φ pr,δ av ex.length ke,δ aw pl.length ar] 63) (PY++ap))
   case first=>
    cases has with
    | false=>
     have aC:=κ (bu.o η);go_wp2;go_meet;rw[aC.o,List.append_nil];exact ad.o
    | true=>
     have aC:=κ (bv.o η);obtain⟨v9,bh⟩:=ad.o;have aN:=κ bh;have ct:((ex.length:Int)).tdiv 4=(ex.length:Int)/4:=Int.tdiv_eq_ediv_of_nonneg τ;clear bh
     go_wp2_with first | (go_at_call 94;((with_reducible refine(kU aN.o.wr pr τ τ).mono ?_);rintro e ca ⟨rfl,bm⟩;obtain⟨v11,aW⟩:=aN.o.wrote bm;have al:=κ aW;clear aW bm d G H I J N O U Y aa;have d:=β0 al.o.keep;have G:=β1 al.o.keep;have H:=β2 al.o.keep;have I:=β3 al.o.keep;have J:=β4 al.o.keep;have N:=β5 al.o.keep;have O:=β6 al.o.keep;have U:=β7 al.o.keep;have Y:=β8 al.o.keep;have aa:=β9 al.o.keep)) | (go_at_call 94;((with_reducible refine(kU al.o.wr ((ex.length:Int)/4) τ (by have:=ju pr 2;simp only[List.length_append] at *;omega)).mono ?_);rintro e cb ⟨rfl,bn⟩;obtain⟨v12,aX⟩:=al.o.wrote bn;have ag:=κ aX;clear aX bn d G H I J N O U Y aa;have d:=β0 ag.o.keep;have G:=β1 ag.o.keep;have H:=β2 ag.o.keep;have I:=β3 ag.o.keep;have J:=β4 ag.o.keep;have N:=β5 ag.o.keep;have O:=β6 ag.o.keep;have U:=β7 ag.o.keep;have Y:=β8 ag.o.keep;have aa:=β9 ag.o.keep)) | (go_at_call 96;(go_call uU ag.o.wr _ ex (ax.o.e.keep ag.o.more) (by have:=ju pr 2;have:=ju ((ex.length:Int)/4) 2;simp only[List.length_append] at *;omega) as e cc ⟨rfl,bo⟩;obtain⟨v13,aY⟩:=ag.o.wrote bo;have bF:=κ aY;clear aY bo))
     go_meet;rw[aC.o];exact⟨v13,by have:=bF.o;simpa only[List.append_assoc] using this⟩
   case rest=>
    obtain⟨v14,aZ⟩:=hcut;have ah:=κ aZ;clear aZ ad d G H I J N O U Y aa;have d:=β0 ah.o.keep;have G:=β1 ah.o.keep;have H:=β2 ah.o.keep;have I:=β3 ah.o.keep;have J:=β4 ah.o.keep;have N:=β5 ah.o.keep;have O:=β6 ah.o.keep;have U:=β7 ah.o.keep;have Y:=β8 ah.o.keep;have aa:=β9 ah.o.keep;have cq:(PY++ap).length<=20000:=by rw[List.length_append];omega
    go_wp2_with first | (go_at_call 96;(go_call uU ah.o.wr _ pl (ax.o.l.keep ah.o.more) τ as e cH ⟨rfl,bp⟩;obtain⟨v15,ba⟩:=ah.o.wrote bp;have aD:=κ ba;clear ba bp d G H I J N O U Y aa)) | (go_at_call 97;(go_call wZ aD.o.wr (by rw[List.length_append];omega) as e cI ⟨v16,rfl,aS,aR⟩;have bx:=κ aS;have bw:=κ aR;clear aS aR))
    go_ret2
    refine⟨⟨_,rfl, ?_⟩,aD.o.more.trans bw.o⟩;have:=kq bx.o aD.o.more.size;rw[<-bA.o,<-bz.o] at this;exact this
end
section
open Go.RowKit
theorem jY {w:World} {g e:Nat} {cur:Array Value} (h:w.heap[g]? =some (.cells cur e (0,0))) (cs:Array Value):(w.setRow g cs).heap[g]? =some (.cells cs e (0,0)):=setRow_heap w g cur cs e (0,0) h
theorem xb (w:World) (g:Nat) (cs:Array Value):qg (λk=>k=g) w (w.setRow g cs):=by
 refine⟨rfl,rfl,rfl,by simp[World.setRow],λb G d=> ?_⟩;unfold World.setRow;simp only;rw[Array.getElem?_modify,if_neg (λe=>d e.symm)]
theorem qS {w:World} {b g:Nat} {o:Obj} (h:w.heap[b]? =some o) (cs:Array Value) (d:b≠g):(w.setRow g cs).heap[b]? =some o:=(xb w g cs).blk h d
theorem qg.row {S:Nat->Prop} {a b:World} (h:qg S a b) {g:Nat} (d:S g) (cs:Array Value):qg S a (b.setRow g cs):=h.trans ((xb b g cs).mono λk e=>by rw[e];exact d)
theorem qg.rowNew {S:Nat->Prop} {a b:World} (h:qg S a b) {g:Nat} (G:a.heap.size<=g) (cs:Array Value):qg S a (b.setRow g cs):=by
 have k:=xb b g cs;exact⟨k.os.trans h.os,k.tape.trans h.tape,k.output.trans h.output,Nat.le_trans h.size k.size,λi hi d=>by rw[k.block i (Nat.lt_of_lt_of_le hi h.size) τ];exact h.block i hi d⟩
theorem qg.alc {S:Nat->Prop} {a b:World} (h:qg S a b) (o:Obj):qg S a (b.alloc o):=h.more (qa.alloc _ _)
theorem qg.grown {S:Nat->Prop} {a b c:World} (h:qg S a b) {v:Option Nat} (g:b.grownBy c v) (H: ∀k,v=some k->a.heap.size<=k):qg S a c:=
 ⟨g.os.trans h.os,g.tape.trans h.tape,g.output.trans h.output,Nat.le_trans h.size g.size,λk d G=>by rw[g.block k (Nat.lt_of_lt_of_le d h.size) (λe=>by have:=H k e.symm;omega)];exact h.block k d G⟩
theorem Wr {n:Nat}: ∀(css:List (List Value)) (i j:Nat),(∀c∈css,c.length=n)->i<css.length->j<n->css.flatten[i* n+j]? =(css.getD i [])[j]?
 | [],_,_,_,h,_=>absurd h η
 | c::css,0,j,hl,_,hj=>by
  have:=hl c η;rw[List.flatten_cons,Nat.zero_mul,Nat.zero_add,List.getElem?_append_left τ];rfl
 | c::css,i+1,j,hl,hi,hj=>by
  have d:=hl c η;rw[List.flatten_cons,List.getElem?_append_right (by rw[d,Nat.add_mul];omega),d,show (i+1)* n+j-n=i* n+j by rw[Nat.add_mul];omega];exact Wr css i j (λG H=>hl G (by simp[H])) (by simpa using hi) hj
theorem DN {n:Nat}: ∀(css:List (List Value)),(∀c∈css,c.length=n)->css.flatten.length=css.length* n
 | [],_=>by simp
 | c::css,h=>by
  rw[List.flatten_cons,List.length_append,DN css λd G=>h d (by simp[G]),h c η,List.length_cons,Nat.add_mul];omega
theorem Yq (z:Array Value) (k n:Nat) (G:z.size=k) (d:0<k):madeCells z (n* k)=(List.replicate n z.toList).flatten.toArray:=by
 apply Array.ext';apply List.ext_getElem?;intro j;have H: ∀c∈List.replicate n z.toList,c.length=k:=λc Y=>by rw[List.eq_of_mem_replicate Y];simpa using G
 by_cases hj:j<n* k
 ·have J:j/k<n:=by rw[Nat.div_lt_iff_lt_mul d];exact hj
  have N:j/k* k+j%k=j:=by rw[Nat.mul_comm];exact Nat.div_add_mod j k
  have I:j%k<z.size:=by rw[G];exact Nat.mod_lt _ d
  have:=Wr (n:=k) (List.replicate n z.toList) (j/k) (j%k) H (by simpa using J) (Nat.mod_lt _ d);rw[N] at this;show (madeCells z (n* k)).toList[j]? =(List.replicate n z.toList).flatten[j]?;rw[this];unfold madeCells;simp[hj,J,G,List.getElem?_replicate];rw[Array.getElem?_eq_getElem I,getElem!_pos z (j%k) I]
 ·have O:(madeCells z (n* k)).toList[j]? =none:=by rw[List.getElem?_eq_none_iff,Array.length_toList,size_madeCells];omega
  have U:(List.replicate n z.toList).flatten[j]? =none:=by rw[List.getElem?_eq_none_iff,DN _ H,List.length_replicate];omega
  rw[O];exact U.symm
def xQ (cur:List Value) (o:Nat) (vs:List Value):List Value:=cur.take o++vs++cur.drop (o+vs.length)
theorem JO {n:Nat}: ∀(css:List (List Value)) (k:Nat) (c:List Value),(∀d∈css,d.length=n)->c.length=n->k<css.length->xQ css.flatten (k* n) c=(css.set k c).flatten
 | [],_,_,_,_,h=>absurd h η
 | d::css,0,c,hl,hc,_=>by
  have G:=hl d η;unfold xQ;rw[Nat.zero_mul,List.take_zero,List.nil_append,Nat.zero_add,List.flatten_cons,List.drop_append_of_le_length τ,List.drop_eq_nil_of_le τ,List.nil_append,List.set_cons_zero,List.flatten_cons]
 | d::css,k+1,c,hl,hc,hk=>by
  have G:=hl d η;have H:=JO css k c (λe J=>hl e (by simp[J])) hc (by simpa using hk);unfold xQ at H ⊢;rw[List.set_cons_succ,List.flatten_cons,List.flatten_cons,<-H];have I:(k+1)* n=d.length+k* n:=by rw[G,Nat.add_mul];omega
  rw[I,List.take_length_add_append,Nat.add_assoc,List.drop_length_add_append];simp
theorem xy {w:World} {g t:Nat} {cs:List Value} (h:w.heap[g]? =some (.cells cs.toArray t (0,0))):w.rangeAt g 0 cs:=λj v d=>by
 rw[cell_of_row w g (0+j) cs.toArray t (0,0) h,Nat.zero_add,List.getElem?_toArray];exact d
section
variable {P:Program} {C:World->Prop}
theorem jh {l:List Oper} {T:Nat} {Q:Act->World->Prop} {k:Nat} {o:Oper} {rest:List (Nat×Bool)} {a:Act} {w:World} (Y:l[k]? =some o) (H:Region.wanted o (yielded l.toArray a.tmps)=true) (J:C w)
  (d:TypeId) (x:Operand) (aa:o.op= .load d x) (b I:Nat) (ac:a.eval x= π (some ⟨b,I,none⟩)) (cs:List Value) (G:TypeDesc) (O: ∀w,C w->w.rangeAt b I cs)
  (ab:P.underlying d=some G) (U:G.isRow=true) (hi:(P.info? d).map (·.size)=some cs.length)
  (h: ∀K:Act->Prop,(∀a,zU P l T C Q rest a w->K a)->K (a.put o.dst (θ cs.toArray))):zU P l T C Q ((k,false)::rest) a w:=
 qE Y H J λK N=>⟨θ cs.toArray,λw H=>by
  unfold Oper.quietAt execOp;simp only[aa,ac,Instr.loadAt,Instr.sureAddr,Sem.run_bind,Sem.run_pure,Result.andThen_ok,run_loadVar_mid w b I d cs G (O w H) ab U hi]
  exact⟨rfl,rfl⟩,h K N⟩
theorem YT {w:World} (G:TypeId) (g d:Nat) (e:TypeId) (cur:Array Value) (cs:List Value) (N:w.heap[g]? =some (.cells cur e (0,0))) (J:d+cs.length<=cur.size)
  (hi:(P.info? G).map (·.size)=some cs.length) (I: ∀u∈cs,u.oneCell'=true):
  (Instr.storeAt G (π (some ⟨g,d,none⟩)) (θ cs.toArray)).run P w= .ok () (w.setRow g (xQ cur.toList d cs).toArray):=by
 have H:=run_storeCells_at P g d e cs 0 cur w N (by simpa using J) I;cases hq:P.info? G with
 | none=>simp[hq] at hi
 | some i=>
  have O:cs.length=i.size:=by simp[hq] at hi;omega
  simp only[Nat.add_zero] at H;unfold xQ;simp[Instr.storeAt,Instr.sureAddr,storeVar,sizeOf,typeInfo,hq,Value.cells,O,H]
theorem zF {o:Oper} {a:Act} {w:World} {K:Act->World->Prop} (G:TypeId) (x y:Operand) (N:o.op= .store G x y) (g d:Nat) (e:TypeId) (cur:Array Value) (cs:List Value)
  (O:a.eval x= π (some ⟨g,d,none⟩)) (U:a.eval y= θ cs.toArray) (J:w.heap[g]? =some (.cells cur e (0,0))) (I:d+cs.length<=cur.size) (hi:(P.info? G).map (·.size)=some cs.length) (H: ∀u∈cs,u.oneCell'=true)
  (h:C (w.setRow g (xQ cur.toList d cs).toArray)/\K (a.put o.dst undef) (w.setRow g (xQ cur.toList d cs).toArray)):jn P C o a w K:=by
 unfold jn execOp;simp only[N,O,U,Sem.run_bind,Sem.run_pure,Result.andThen_ok,YT G g d e cur cs J I hi H];exact h
theorem jr {o:Oper} {a:Act} {w:World} {K:Act->World->Prop} (G:TypeId) (x y:Operand) (J:o.op= .store G x y) (g:Nat) (e:TypeId) (c d:Array Value)
  (O:a.eval x= γ g) (U:a.eval y= θ d) (I:w.heap[g]? =some (.cells c e (0,0))) (hi:(P.info? G).map (·.size)=some d.size) (N:c.size=d.size) (H:d.all (·.oneCell')=true)
  (h:C (w.setRow g d)/\K (a.put o.dst undef) (w.setRow g d)):jn P C o a w K:=by
 unfold jn execOp;simp only[J,O,U,Instr.storeAt,Instr.sureAddr,Sem.run_bind,Sem.run_pure,Result.andThen_ok,run_storeVar_row w g e G c d I hi N H];exact h
theorem xW {ops:Array Oper} {rest:List Oper} {o:Oper} {a:Act} {w:World} {Q:Exit->Act->World->Prop} (N:o.guard=none) (G:TypeId) (x y:Operand) (O:o.op= .store G x y)
  (g:Nat) (t:TypeId) (c d:Array Value) (J:w.heap[g]? =some (.cells c t (0,0))) (Y:a.eval x= γ g) (aa:a.eval y= θ d)
  (hi:(P.info? G).map (·.size)=some d.size) (U:c.size=d.size) (H:d.all (·.oneCell')=true)
  (h:wpList P ops Q rest (a.put o.dst undef) (w.setRow g d)):wpList P ops Q (o::rest) a w:=by
 refine wpList_plain N λK I=> ?_
 unfold Oper.wp execOp;simp only[O,Y,aa,Instr.storeAt,Instr.sureAddr,Sem.run_bind,Sem.run_pure,Result.andThen_ok,run_storeVar_row w g t G c d J hi U H];exact I _ _ h
theorem yL {ops:Array Oper} {rest:List Oper} {o:Oper} {a:Act} {w:World} {Q:Exit->Act->World->Prop} (p:Op) (_:o.op=p) (h:wpList P ops Q (o::rest) a w):wpList P ops Q (o::rest) a w:=h
theorem vO {ops:Array Oper} {rest:List Oper} {o:Oper} {a:Act} {w:World} {Q:Exit->Act->World->Prop} (N:o.guard=none) (d:TypeId) (x:Operand) (O:o.op= .load d x)
  (g:Nat) (t:TypeId) (c:Array Value) (G:TypeDesc) (J:w.heap[g]? =some (.cells c t (0,0))) (Y:a.eval x= γ g)
  (U:P.underlying d=some G) (I:G.isRow=true) (hi:(P.info? d).map (·.size)=some c.size)
  (h:wpList P ops Q rest (a.put o.dst (θ c)) w):wpList P ops Q (o::rest) a w:=by
 have H:w.rangeAt g 0 c.toList:=by
  have:=World.rangeAt_of_block J 0 c.size;rw[Nat.zero_add,Array.extract_size] at this;exact this
 have:=wpList_load_mid (P:=P) (ops:=ops) (rest:=rest) (op:=o) (a:=a) (w:=w) (Q:=Q) N d x O g 0 Y c.toList G H U I (by rw[hi];simp);simp only[Array.toArray_toList] at this;exact this h
theorem kW (w:World) (t aa e:TypeId) (z:Value) (d:List Value) (N:P.underlying t=some (.slice e)) (O: ∀w,(zeroValue e).run P w= .ok z w) (U:(Builtin.zeroCells z.cells 1).toList=d) (g o c:Nat) (cur:Array Value) (J:w.heap[g]? =some (.cells cur e (0,0)))
  (I:o+d.length<=cur.size) (H: ∀v∈d,v.oneCell'=true):
  (Builtin.clear_ #[t] aa #[δ (some ⟨g,o,none⟩) 1 c]).run P w= .ok (.tuple #[]) (w.setRow g (xQ cur.toList o d).toArray):=by
 have Y:Builtin.zeroCells z.cells 1=d.toArray:=by
  rw[<-U]
 have G:=run_storeCells_at P g o e d 0 cur w J (by simpa using I) H;simp only[Nat.add_zero] at G;unfold xQ;simp[Builtin.clear_,run_underlying N,O w,Y,G]
end
def jV (A room first q:Nat) (ci co cd cg:Int):Array Value:=
 #[.slice (some ⟨A,0,none⟩) room room,.int .i64 first,.int .i64 q,.bool false,.int .i64 ci,.int .i64 co,.int .i64 cd,.int .i64 cg]
structure qN (n tr te:Nat) (w:World) (R A room first:Nat) (q:List (List Value)) (ci co cd cg:Int) (css:List (List Value)):Prop where
 ring:w.heap[R]? =some (.cells (jV A room first q.length ci co cd cg) tr (0,0))
 row:w.heap[A]? =some (.cells css.flatten.toArray te (0,0))
 ne:R≠A
 len:css.length=room
 all: ∀c∈css,c.length=n/\ ∀u∈c,u.oneCell'=true
 pos:1<=room/\room<=8
 fst:first<room
 fits:q.length<=room
 holds: ∀i,i<q.length->css.getD ((first+i)%room) []=q.getD i []
def RgB (R A:Nat) (b:Nat):Prop:=b=R∨b=A
theorem Mb (first i room:Nat):((first+1)%room+i)%room=(first+(i+1))%room:=by
 rw[Nat.mod_add_mod];congr 1;omega
theorem DO {first i room:Nat} (h:first<room) (hi:i<room):(first+i)%room=if first+i<room then first+i else first+i-room:=by
 split
 ·exact Nat.mod_eq_of_lt (by assumption)
 ·rw[Nat.mod_eq_sub_mod τ,Nat.mod_eq_of_lt τ]
section
variable {n tr te:Nat} {w w':World} {R A room first:Nat} {q:List (List Value)} {ci co cd cg:Int} {css:List (List Value)}
theorem qN.away {S:Nat->Prop} (h:qN n tr te w R A room first q ci co cd cg css) (a:qg S w w') (G: ¬S R) (d: ¬S A):qN n tr te w' R A room first q ci co cd cg css:=
 {h with ring:=a.blk h.ring G,row:=a.blk h.row d}
theorem qN.more (h:qN n tr te w R A room first q ci co cd cg css) (m:qa w w'):qN n tr te w' R A room first q ci co cd cg css:=
 {h with ring:=qc m h.ring,row:=qc m h.row}
theorem qN.ctr (h:qN n tr te w R A room first q ci co cd cg css) (i:Nat) (v:Value) {H I d G:Int} (e:(jV A room first q.length ci co cd cg).setIfInBounds i v=jV A room first q.length H I d G):qN n tr te (w.setCell ⟨R,i,none⟩ v) R A room first q H I d G css:=
 {h with ring:=qB (qp h.ring i v) e,row:=qo h.row _ _ (Ne.symm h.ne)}
theorem qN.popped (h:qN n tr te w R A room first q ci co cd cg css) (v:Int):qN n tr te (w.setCell ⟨R,5,none⟩ (ι v)) R A room first q ci v cd cg css:=h.ctr 5 _ rfl
theorem qN.dropped (h:qN n tr te w R A room first q ci co cd cg css) (v:Int):qN n tr te (w.setCell ⟨R,6,none⟩ (ι v)) R A room first q ci co v cg css:=h.ctr 6 _ rfl
theorem qN.drained (h:qN n tr te w R A room first q ci co cd cg css) (v:Int):qN n tr te (w.setCell ⟨R,7,none⟩ (ι v)) R A room first q ci co cd v css:=h.ctr 7 _ rfl
theorem yo {P:Program} {H:Func} {p u:Tmp} {d:TypeId} (h:H.results= #[.cell p d,.tmp u]) (tmps:Array Value) (w:World) (g:Nat) (t:TypeId) (cs:Array Value) (G:TypeDesc) (v2:Value)
  (N:tmps.getD p undef= γ g) (U:tmps.getD u undef=v2) (J:w.heap[g]? =some (.cells cs t (0,0)))
  (aa:P.underlying d=some G) (I:(match G with | .struct _ | .array _ _=>true | _=>false)=true) (hi:(P.info? d).map (·.size)=some cs.size):
  (results H tmps).run P w= .ok (.tuple #[θ cs,v2]) w:=by
 have O:tmps[p]?.getD undef= γ g:=by simpa using N
 have Y:tmps[u]?.getD undef=v2:=by simpa using U
 simp[results,h,O,Y,asAddr,run_loadVar_row w g t d cs (0,0) G J aa I hi]
theorem KW {P:Program} {H:Func} {p u s:Tmp} {d:TypeId} (h:H.results= #[.cell p d,.tmp u,.tmp s]) (tmps:Array Value) (w:World) (g:Nat) (t:TypeId) (cs:Array Value) (G:TypeDesc) (v2 v3:Value)
  (N:tmps.getD p undef= γ g) (U:tmps.getD u undef=v2) (aa:tmps.getD s undef=v3) (J:w.heap[g]? =some (.cells cs t (0,0)))
  (ac:P.underlying d=some G) (I:(match G with | .struct _ | .array _ _=>true | _=>false)=true) (hi:(P.info? d).map (·.size)=some cs.size):
  (results H tmps).run P w= .ok (.tuple #[θ cs,v2,v3]) w:=by
 have O:tmps[p]?.getD undef= γ g:=by simpa using N
 have Y:tmps[u]?.getD undef=v2:=by simpa using U
 have ab:tmps[s]?.getD undef=v3:=by simpa using aa
 simp[results,h,O,Y,ab,asAddr,run_loadVar_row w g t d cs (0,0) G J ac I hi]
theorem qN.cl (h:qN n tr te w R A room first q ci co cd cg css): ∀c∈css,c.length=n:=λc d=>(h.all c d).1
theorem qN.size (h:qN n tr te w R A room first q ci co cd cg css):css.flatten.toArray.size=room* n:=by rw[List.size_toArray,DN css h.cl,h.len]
theorem qN.range (h:qN n tr te w R A room first q ci co cd cg css) {k:Nat} (J:k<room):w.rangeAt A (k* n) (css.getD k []):=λj v G=>by
 have d:k<css.length:=by rw[h.len];exact J
 have H:(css.getD k []).length=n:=by
  rw[List.getD_eq_getElem?_getD,List.getElem?_eq_getElem d];exact h.cl _ (List.getElem_mem d)
 have I:j<n:=by rw[<-H];exact(List.getElem?_eq_some_iff.1 G).1
 rw[cell_of_row w A (k* n+j) css.flatten.toArray te (0,0) h.row,List.getElem?_toArray,Wr css k j h.cl d I];exact G
theorem qN.head {c:List Value} {T:List (List Value)} (h:qN n tr te w R A room first (c::T) ci co cd cg css):css.getD first []=c:=by
 have:=h.holds 0 η;rw[Nat.add_zero,Nat.mod_eq_of_lt h.fst] at this;exact this
theorem qN.ofHead {c:List Value} {T:List (List Value)} (h:qN n tr te w R A room first (c::T) ci co cd cg css):c.length=n/\ ∀u∈c,u.oneCell'=true:=by
 rw[<-h.head];have d:first<css.length:=by rw[h.len];exact h.fst
 rw[List.getD_eq_getElem?_getD,List.getElem?_eq_getElem d];exact h.all _ (List.getElem_mem d)
theorem qN.qall (h:qN n tr te w R A room first q ci co cd cg css): ∀c∈q,c.length=n/\ ∀u∈c,u.oneCell'=true:=λc G=>by
 obtain⟨i,hi,rfl⟩:=List.mem_iff_getElem.1 G;have:=h.holds i hi;rw[List.getD_eq_getElem?_getD,List.getD_eq_getElem?_getD,List.getElem?_eq_getElem hi,Option.getD_some] at this;rw[<-this];have d:(first+i)%room<css.length:=by rw[h.len];exact Nat.mod_lt _ (by have:=h.pos;omega)
 rw[List.getElem?_eq_getElem d];exact h.all _ (List.getElem_mem d)
theorem WH {p:List Value->Prop} {css:List (List Value)} {k:Nat} {z:List Value} (h: ∀c∈css,p c) (G:p z): ∀c∈css.set k z,p c:=λc d=>by
 rcases List.mem_or_eq_of_mem_set d with h1 | rfl
 ·exact h c h1
 ·exact G
theorem qN.took {c:List Value} {T:List (List Value)} (h:qN n tr te w R A room first (c::T) ci co cd cg css) {z:List Value} (ab:z.length=n/\ ∀u∈z,u.oneCell'=true) {H I d G:Int}
  (Y:w'.heap[R]? =some (.cells (jV A room ((first+1)%room) T.length H I d G) tr (0,0))) (aa:w'.heap[A]? =some (.cells (css.set first z).flatten.toArray te (0,0))):qN n tr te w' R A room ((first+1)%room) T H I d G (css.set first z):=by
 have N:=h.fits;simp at N;refine⟨Y,aa,h.ne,by rw[List.length_set];exact h.len,WH h.all ab,h.pos,Nat.mod_lt _ (by have:=h.pos;omega),τ,λi hi=> ?_⟩;rw[Mb];have U:=h.holds (i+1) (by simp;omega);have J:=h.fst;have O:(first+(i+1))%room≠first:=by
  intro e;rw[DO J τ] at e;split at e<;>omega
 rw[List.getD_eq_getElem?_getD,List.getElem?_set_ne (Ne.symm O),<-List.getD_eq_getElem?_getD,U];rfl
theorem qN.put (h:qN n tr te w R A room first q ci co cd cg css) (Y:q.length<room) {c:List Value} (O:c.length=n/\ ∀u∈c,u.oneCell'=true) {I J G H:Int}
  (aa:w'.heap[R]? =some (.cells (jV A room first (q.length+1) I J G H) tr (0,0))) (ab:w'.heap[A]? =some (.cells (css.set ((first+q.length)%room) c).flatten.toArray te (0,0))):qN n tr te w' R A room first (q++[c]) I J G H (css.set ((first+q.length)%room) c):=by
 refine⟨by simpa using aa,ab,h.ne,by rw[List.length_set];exact h.len,WH h.all O,h.pos,h.fst,by simp;omega,λi hi=> ?_⟩;have N:=h.fst;simp at hi;by_cases e:i=q.length
 ·subst e;rw[List.getD_eq_getElem?_getD,List.getElem?_set_self (by rw[h.len];exact Nat.mod_lt _ τ)];simp
 ·have U:(first+i)%room≠(first+q.length)%room:=by
   intro d;rw[DO N τ,DO N Y] at d;split at d<;>split at d<;>omega
  rw[List.getD_eq_getElem?_getD,List.getElem?_set_ne (Ne.symm U),<-List.getD_eq_getElem?_getD,h.holds i τ];simp only[List.getD_eq_getElem?_getD];rw[List.getElem?_append_left τ]
end
def Wt (zs:List Value) (first room:Nat) (q0 css:List (List Value)) (cd:Int):Bool->List Value->Nat->List (List Value)->Int->List (List Value)->Prop
 | false,old,f,q,cd',cs=>old=zs/\f=first/\q=q0/\cd'=cd/\cs=css
 | true,old,f,q,_,cs=>q0=old::q/\f=(first+1)%room/\cs=css.set first zs
end
section
open Go.RowKit
def jj (n:Int):Bool:=decide (0<=n/\n<3)
theorem Ψ1 {P:Prop} (h:P:=by
 have G:Hid (jj n=decide (0<=n/\n<3)):=κ rfl;by_cases h1:0<=n
 ·by_cases h2:n<3
  ·have d:jj n=true:=by rw[G.o];simp[h1,h2]
   rw[d]
   go_enter Ξa,Ξb
   go_wp2
   all_goals (go_ret;first | exact⟨rfl,rfl⟩ | omega)
  ·have d:jj n=false:=by rw[G.o];simp[h2]
   rw[d]
   go_enter Ξa,Ξb
   go_wp2
   all_goals (go_ret;first | exact⟨rfl,rfl⟩ | omega)
 ·have d:jj n=false:=by rw[G.o];simp[h1]
  rw[d]
  go_enter Ξa,Ξb
  go_wp2
  all_goals (go_ret;first | exact⟨rfl,rfl⟩ | omega)):P:=h
section
open _root_.Go.Proofs.Tryz renaming func207->Ξa,ntmps207->Ξb
theorem YQ (n:Int) (w:World):Calls prog 207 #[ι n] w λe w'=>e= .returned (μ (jj n))/\w'=w:=Ψ1
end
section
open _root_.Go.Proofs.Tryz renaming func151->Ξa,ntmps151->Ξb
theorem xX (n:Int) (w:World):Calls prog 151 #[ι n] w λe w'=>e= .returned (μ (jj n))/\w'=w:=Ψ1
end
theorem QT (c t n:Int) (d:jj n=true) (w:World):Calls prog 152 #[θ #[ι c,ι t],ι n] w λe w'=>e= .returned (.tuple #[θ #[ι c,ι n],ι 0])/\qa w w':=by
 have G:=κ d;clear d
 go_enter func152,ntmps152
 go_wp2_with (first | (go_at_call 207;((with_reducible refine(YQ n _).mono ?_);rintro e w1 ⟨rfl,rfl⟩;rw[G.o])))
 refine bodyPost_ret (v:= .tuple #[θ #[ι c,ι n],ι 0]) (by simp[results,results152,go_sem]) rfl ?_;exact⟨rfl,ρ⟩
end
section
open Go.RowKit
theorem YS (n:Int) (H:jj n=true) (w:World):Calls prog 153 #[ι n] w λe w'=>e= .returned (.tuple #[θ #[ι (-1),ι n],ι 0])/\qa w w':=by
 have I:=κ H;clear H
 go_enter func153,ntmps153
 go_wp2_with (first | (go_at_call 152;(go_call QT (-1) 0 n I.o _ as e w1 ⟨rfl,d⟩;have G:Hid (w1.heap[w.heap.size]? =some (.cells #[ι 0,ι 0] 103 (0,0))):=κ (qc d (qj _ _));have J:=κ ((qa.alloc _ _).trans d);clear d)) | (refine yL (.store 103 (.tmp 2) (.tmp 7)) rfl ?_;refine xW rfl 103 (.tmp 2) (.tmp 7) rfl w.heap.size 103 _ #[ι (-1),ι n] G.o rfl rfl ξ rfl (all_oneCell_toArray (by simp[Value.oneCell'])) ?_))
 refine bodyPost_ret (v:= .tuple #[θ #[ι (-1),ι n],ι 0]) (yo results153 _ _ w.heap.size 103 #[ι (-1),ι n] _ _ rfl rfl (jY G.o _) underlying103 rfl ξ) rfl ?_;exact⟨rfl,(xb _ _ _).to_more J.o (λk e=>by rw[e];exact Nat.le_refl _)⟩
end
section
open Go.RowKit
theorem Uo (c t n:Int) (k:Bool) (d:(n==c)=true) (G:(n != c)=false) (w:World):Calls prog 198 #[θ #[ι c,ι t],ι n,k] w λe w'=>e= .returned (.tuple #[θ #[ι c,ι t],ι 0,false])/\qa w w':=by
 go_enter func198,ntmps198
 go_wp2;refine bodyPost_ret (v:= .tuple #[θ #[ι c,ι t],ι 0,false]) (by simp[results,results198,go_sem]) rfl ?_;exact⟨rfl,ρ⟩
theorem Up (c t n:Int) (k:Bool) (d:(n != c)=true) (G:(n==t)=true) (H:k=true) (w:World):Calls prog 198 #[θ #[ι c,ι t],ι n,k] w λe w'=>e= .returned (.tuple #[θ #[ι n,ι t],ι 0,true])/\qa w w':=by
 go_enter func198,ntmps198
 go_wp2;refine bodyPost_ret (v:= .tuple #[θ #[ι n,ι t],ι 0,true]) (by simp[results,results198,go_sem]) rfl ?_;exact⟨rfl,ρ⟩
theorem V9 (c t n:Int) (k:Bool) (G:(n != c)=true) (d:(n==c)=false) (H:(n==t)=true) (I:k=false) (w:World):Calls prog 198 #[θ #[ι c,ι t],ι n,k] w λe w'=>e= .returned (.tuple #[θ #[ι c,ι t],ι 5,false])/\qa w w':=by
 go_enter func198,ntmps198
 go_wp2;refine bodyPost_ret (v:= .tuple #[θ #[ι c,ι t],ι 5,false]) (by simp[results,results198,go_sem]) rfl ?_;exact⟨rfl,ρ⟩
theorem AG (c t n:Int) (k:Bool) (G:(n != c)=true) (d:(n==c)=false) (H:(n==t)=false) (w:World):Calls prog 198 #[θ #[ι c,ι t],ι n,k] w λe w'=>e= .returned (.tuple #[θ #[ι c,ι t],ι 4,false])/\qa w w':=by
 go_enter func198,ntmps198
 go_wp2;refine bodyPost_ret (v:= .tuple #[θ #[ι c,ι t],ι 4,false]) (by simp[results,results198,go_sem]) rfl ?_;exact⟨rfl,ρ⟩
end
section
open Go.RowKit
theorem Ka (m:Int) (d:1<=m) (G:m<=10) (w:World):Calls prog 149 #[ι m] w λe w'=>e= .returned (.tuple #[θ #[ι m,ι 0,false],ι 0])/\qa w w':=by
 go_enter func149,ntmps149
 go_wp2;refine bodyPost_ret (v:= .tuple #[θ #[ι m,ι 0,false],ι 0]) (by simp[results,results149,go_sem]) rfl ?_;exact⟨rfl,ρ⟩
theorem Zf (s q t:Int) (w:World):Calls prog 150 #[ω s,φ q,ω t] w λe w'=>e= .returned (θ #[ω s,φ q,ω t,false,ω 0,ω 0])/\qa w w':=by
 go_enter func150,ntmps150
 go_wp2;refine bodyPost_ret (v:= θ #[ω s,φ q,ω t,false,ω 0,ω 0]) (by simp[results,results150,go_sem]) rfl ?_;exact⟨rfl,ρ⟩
end
section
open Go.RowKit
theorem XP (m r:Int) (g:Bool) (w:World):Calls prog 234 #[θ #[ι m,ι r,g]] w λe w'=>e= .returned (θ #[ι m,ι 0,g])/\qa w w':=by
 go_enter func234,ntmps234
 go_wp2;refine bodyPost_ret (v:= θ #[ι m,ι 0,g]) (by simp[results,results234,go_sem]) rfl ?_;exact⟨rfl,ρ⟩
theorem Zg (m r:Int) (g:Bool) (d:0<=r) (G:r<=10) (w:World):Calls prog 233 #[θ #[ι m,ι r,g]] w λe w'=>e= .returned (θ #[ι m,ι (r+1),(r+1==m)])/\qa w w':=by
 go_enter func233,ntmps233
 go_wp2;refine bodyPost_ret (v:= θ #[ι m,ι (r+1),(r+1==m)]) (by simp[results,results233,go_sem]) rfl ?_;exact⟨rfl,ρ⟩
theorem UL (m r:Int) (a:Bool) (w:World):Calls prog 176 #[θ #[ι m,ι r,true],a] w λe w'=>e= .returned (.tuple #[θ #[ι m,ι r,true],false])/\qa w w':=by
 go_enter func176,ntmps176
 go_wp2;refine bodyPost_ret (v:= .tuple #[θ #[ι m,ι r,true],false]) (by simp[results,results176,go_sem]) rfl ?_;exact⟨rfl,ρ⟩
theorem Pj (m r:Int) (w:World):Calls prog 176 #[θ #[ι m,ι r,false],true] w λe w'=>e= .returned (.tuple #[θ #[ι m,ι 0,false],false])/\qa w w':=by
 have U:=κ (XP m r false)
 go_enter func176,ntmps176
 go_wp2_with (refine(U.o _).mono ?_;rintro e w1 ⟨rfl,J⟩;have H:Hid (w1.heap[w.heap.size+1]? =some (.cells #[ι 0,ι 0,false] 151 (0,0))):=κ (qc J (qC η));have O:Hid (qa w w1):=κ (((qa.alloc _ _).al _).trans J);clear J)
 obtain⟨W1,G⟩:=ν (w1.alloc (.cells #[ι m,ι 0,false] 151));have aa:Hid (qa w W1):=κ (by rw[<-G];exact O.o.al _);have N:Hid (W1.heap[w.heap.size+1]? =some (.cells #[ι 0,ι 0,false] 151 (0,0))):=κ (by rw[<-G];exact qs H.o _);have I:Hid (W1.heap[w1.heap.size]? =some (.cells #[ι m,ι 0,false] 151 (0,0))):=κ (by rw[<-G];exact qj w1 _);rw[G];clear G O;have Y: ∀x:qz (λb=>b=w.heap.size+1) W1,x.w'.rangeAt w1.heap.size 0 [ι m,ι 0,false]:=λx=>xy (x.h.blk I.o (by have:=qn H.o;omega))
 have ac: ∀x:qz (λb=>b=w.heap.size+1) W1,x.w'.cell? ⟨w1.heap.size,2,none⟩=some (μ false):=λx=>x.cell (qn I.o) (by have:=qn H.o;omega) (qb I.o 2 rfl)
 clear H;refine QN (λb=>b=w.heap.size+1) W1 4 5 [3,4] ?_;refine jh rfl rfl (qi σ) 151 (.tmp 7) rfl w1.heap.size 0 rfl [ι m,ι 0,false] _ (λw' ab=>by obtain⟨x,rfl⟩:=ab;exact Y x) underlying151 rfl ξ ?_;intro K d;go_simp;refine d _ ?_;clear d K
 refine Qs2 ?_
 refine jR rfl rfl ?_;intro K d;refine jr 151 (.tmp 4) (.tmp 18) rfl (w.heap.size+1) 151 _ #[ι m,ι 0,false] rfl rfl (qr N.o 1) ξ rfl (all_oneCell_toArray (by simp[Value.oneCell'])) ?_;refine⟨qi (((qg.refl (λb=>b=w.heap.size+1) W1).drewN 1).row (g:=w.heap.size+1) rfl _), ?_⟩;go_simp;refine d _ _ ?_;clear d K
 (refine Qe ?_;intro K d)
 refine d _ _ ?_;clear d K;refine qA ?_;go_wp2;refine bodyPost_ret (v:= .tuple #[θ #[ι m,ι 0,false],false]) (yo results176 _ _ (w.heap.size+1) 151 #[ι m,ι 0,false] _ _ rfl rfl (jY (qr N.o 1) _) underlying151 rfl ξ) rfl ?_;exact⟨rfl,(xb _ _ _).to_more (aa.o.dr 1) (λk e=>by rw[e];exact Nat.le_succ _)⟩
theorem BD (m r:Int) (ad:0<=r) (ae:r<=10) (q:Int) (b:Bool) (aa:r+1=q) (Y:(q==m)=b) (w:World):Calls prog 176 #[θ #[ι m,ι r,false],false] w λe w'=>e= .returned (.tuple #[θ #[ι m,ι q,b],b])/\qa w w':=by
 have I:=Zg m r false ad ae;rw[aa,Y] at I;have I:=κ I;clear aa Y
 go_enter func176,ntmps176
 go_wp2_with (refine(I.o _).mono ?_;rintro e w1 ⟨rfl,N⟩;have H:Hid (w1.heap[w.heap.size+1]? =some (.cells #[ι 0,ι 0,false] 151 (0,0))):=κ (qc N (qC η));have U:Hid (qa w w1):=κ (((qa.alloc _ _).al _).trans N);clear N)
 obtain⟨W1,G⟩:=ν (w1.alloc (.cells #[ι m,ι q,b] 151));have ac:Hid (qa w W1):=κ (by rw[<-G];exact U.o.al _);have O:Hid (W1.heap[w.heap.size+1]? =some (.cells #[ι 0,ι 0,false] 151 (0,0))):=κ (by rw[<-G];exact qs H.o _);have J:Hid (W1.heap[w1.heap.size]? =some (.cells #[ι m,ι q,b] 151 (0,0))):=κ (by rw[<-G];exact qj w1 _);rw[G];clear G U;have ab: ∀x:qz (λb=>b=w.heap.size+1) W1,x.w'.rangeAt w1.heap.size 0 [ι m,ι q,b]:=λx=>xy (x.h.blk J.o (by have:=qn H.o;omega))
 have ag: ∀x:qz (λb=>b=w.heap.size+1) W1,x.w'.cell? ⟨w1.heap.size,2,none⟩=some (μ b):=λx=>x.cell (qn J.o) (by have:=qn H.o;omega) (qb J.o 2 rfl)
 clear H;refine QN (λb=>b=w.heap.size+1) W1 4 5 [3,4] ?_;refine jh rfl rfl (qi σ) 151 (.tmp 7) rfl w1.heap.size 0 rfl [ι m,ι q,b] _ (λw' af=>by obtain⟨x,rfl⟩:=af;exact ab x) underlying151 rfl ξ ?_;intro K d;go_simp;refine d _ ?_;clear d K
 refine Qs2 ?_
 refine jR rfl rfl ?_;intro K d;refine jr 151 (.tmp 4) (.tmp 18) rfl (w.heap.size+1) 151 _ #[ι m,ι q,b] rfl rfl (qr O.o 1) ξ rfl (all_oneCell_toArray (by simp[Value.oneCell'])) ?_;refine⟨qi (((qg.refl (λb=>b=w.heap.size+1) W1).drewN 1).row (g:=w.heap.size+1) rfl _), ?_⟩;go_simp;refine d _ _ ?_;clear d K
 (refine Qe ?_;intro K d)
 refine d _ _ ?_;clear d K;refine qA ?_;go_wp2;refine bodyPost_ret (v:= .tuple #[θ #[ι m,ι q,b],b]) (yo results176 _ _ (w.heap.size+1) 151 #[ι m,ι q,b] _ _ rfl rfl (jY (qr O.o 1) _) underlying151 rfl ξ) rfl ?_;exact⟨rfl,(xb _ _ _).to_more (ac.o.dr 1) (λk e=>by rw[e];exact Nat.le_succ _)⟩
end
section
open Go.RowKit
theorem EN {P:Program} {J:Func} {p u:Tmp} {d G:TypeId} (h:J.results= #[.cell p d,.cell u G]) (tmps:Array Value) (w:World) (g g':Nat) (t t':TypeId) (cs cs':Array Value) (H I:TypeDesc)
  (ab:tmps.getD p undef= γ g) (ad:tmps.getD u undef= γ g') (U:w.heap[g]? =some (.cells cs t (0,0))) (Y:w.heap[g']? =some (.cells cs' t' (0,0)))
  (af:P.underlying d=some H) (N:(match H with | .struct _ | .array _ _=>true | _=>false)=true) (hi:(P.info? d).map (·.size)=some cs.size)
  (ag:P.underlying G=some I) (O:(match I with | .struct _ | .array _ _=>true | _=>false)=true) (aa:(P.info? G).map (·.size)=some cs'.size):
  (results J tmps).run P w= .ok (.tuple #[θ cs,θ cs']) w:=by
 have ac:tmps[p]?.getD undef= γ g:=by simpa using ab
 have ae:tmps[u]?.getD undef= γ g':=by simpa using ad
 simp[results,h,ac,ae,asAddr,run_loadVar_row w g t d cs (0,0) H U af N hi,run_loadVar_row w g' t' G cs' (0,0) I Y ag O aa]
structure RwS where
 src:Int
 sq:Int
 st:Int
 any:Bool
 last:Int
 shift:Int
def shL (s:RwS) (t:Int) (first:Bool):Int:=if s.any then (if first then (s.last+3000-t)%4294967296 else s.shift) else (s.st-t)%4294967296
theorem Az (G sq st la N:Int) (any first:Bool) (I:Bool) (J q t O:Int) (w:World) (X:Int) (d:shL ⟨G,sq,st,any,la,N⟩ t first=X):
    Calls prog 257 #[θ #[ω G,φ sq,ω st,any,ω la,ω N],θ #[μ I,υ J,φ q,ω t,ω O],first] w
      λe w'=>e= .returned (θ #[μ I,υ J,φ sq,ω ((t+X)%4294967296),ω G,ω X])/\qa w w':=by
  cases any with
  | false=>
    obtain rfl:X=(st-t)%4294967296:=by rw[<-d];rfl
    clear d
    have H:(t+(st-t)%4294967296)%4294967296=(t+(st-t))%4294967296:=by omega
    rw[H]
    clear H
    go_enter func257,ntmps257
    go_wp2
    refine bodyPost_ret (v:= θ #[μ I,υ J,φ sq,ω ((t+(st-t))%4294967296),ω G,ω ((st-t)%4294967296)]) (by simp[results,results257,go_sem]) rfl ?_
    exact⟨rfl,ρ⟩
  | true=>
   cases first with
   | true=>
    obtain rfl:X=(la+3000-t)%4294967296:=by rw[<-d];rfl
    clear d
    have H:(t+(la+3000-t)%4294967296)%4294967296=(t+(la+3000-t))%4294967296:=by omega
    rw[H]
    clear H
    go_enter func257,ntmps257
    go_wp2
    refine bodyPost_ret (v:= θ #[μ I,υ J,φ sq,ω ((t+(la+3000-t))%4294967296),ω G,ω ((la+3000-t)%4294967296)]) (by simp[results,results257,go_sem]) rfl ?_
    exact⟨rfl,ρ⟩
   | false=>
    obtain rfl:X=N:=by rw[<-d];rfl
    clear d
    go_enter func257,ntmps257
    go_wp2
    refine bodyPost_ret (v:= θ #[μ I,υ J,φ sq,ω ((t+X)%4294967296),ω G,ω X]) (by simp[results,results257,go_sem]) rfl ?_
    exact⟨rfl,ρ⟩
theorem AI (d sq st la U:Int) (any first:Bool) (I:Bool) (J q t an:Int) (w:World) (X:Int) (ai:shL ⟨d,sq,st,any,la,U⟩ t first=X) (Z:Int) (aj:(t+X)%4294967296=Z) (Q:Int) (ah:(sq+1)%65536=Q):
  Calls prog 201 #[θ #[ω d,φ sq,ω st,any,ω la,ω U],θ #[μ I,υ J,φ q,ω t,ω an],first] w
   λe w'=>e= .returned (.tuple #[θ #[ω d,φ Q,ω st,true,ω Z,ω X],θ #[μ I,υ J,φ sq,ω Z,ω d]])/\qa w w':=by
 have Y:=λw=>Az d sq st la U any first I J q t an w X ai
 rw[aj] at Y;have Y:=κ Y;have af:=κ ah;clear ai aj ah
 go_enter func201,ntmps201
 go_wp2_with (refine(Y.o _).mono ?_;rintro e w1 ⟨rfl,O⟩;have G:Hid (w1.heap[w.heap.size]? =some (.cells #[ω d,φ sq,ω st,any,ω la,ω U] 149 (0,0))):=κ (qc O (by repeat (first | exact qC η | refine qs ?_ _)));have ac:Hid (w1.heap[w.heap.size+2]? =some (.cells #[ω 0,φ 0,ω 0,false,ω 0,ω 0] 149 (0,0))):=κ (qc O (by repeat (first | exact qC η | refine qs ?_ _)));have aa:Hid (w1.heap[w.heap.size+3]? =some (.cells #[μ false,υ 0,φ 0,ω 0,ω 0] 60 (0,0))):=κ (qc O (by repeat (first | exact qC η | refine qs ?_ _)));have ag:Hid (qa w w1):=κ ((((qa.refl w).al _ |>.al _ |>.al _ |>.al _)).trans O);clear O;have aE:w.heap.size<w1.heap.size:=qn G.o;have aA:w1.cell? ⟨w.heap.size,1,none⟩=some (φ sq):=qb G.o 1 rfl;have aB:w1.cell? ⟨w.heap.size,3,none⟩=some (μ any):=qb G.o 3 rfl;have aC:w1.cell? ⟨w.heap.size,4,none⟩=some (ω la):=qb G.o 4 rfl;have aD:w1.cell? ⟨w.heap.size,5,none⟩=some (ω U):=qb G.o 5 rfl;have av:w1.frozen? ⟨w.heap.size,1,none⟩=false:=qd G.o 1;have aw:w1.frozen? ⟨w.heap.size,3,none⟩=false:=qd G.o 3;have ax:w1.frozen? ⟨w.heap.size,4,none⟩=false:=qd G.o 4;have ay:w1.frozen? ⟨w.heap.size,5,none⟩=false:=qd G.o 5)
 have am:IntKind.u16.wrap (sq+1)=Q:=af.o;rw[am];obtain⟨W1,N⟩:=ν ((((((w1.setCell ⟨w.heap.size,1,none⟩ (φ Q)).setCell ⟨w.heap.size,3,none⟩ (μ true)).setCell ⟨w.heap.size,4,none⟩ (ω Z)).setCell ⟨w.heap.size,5,none⟩ (ω X)).alloc (.cells #[μ I,υ J,φ sq,ω Z,ω d,ω X] 429)));have ar:Hid (qa w W1):=κ (by rw[<-N];exact((((ag.o.st (Nat.le_refl _) _).st (Nat.le_refl _) _).st (Nat.le_refl _) _).st (Nat.le_refl _) _).al _);have au:Hid (W1.heap[w.heap.size]? =some (.cells #[ω d,φ Q,ω st,true,ω Z,ω X] 149 (0,0))):=κ (by rw[<-N];exact qs (qB (qp (qp (qp (qp G.o 1 _) 3 _) 4 _) 5 _) rfl) _);have ad:Hid (W1.heap[w.heap.size+2]? =some (.cells #[ω 0,φ 0,ω 0,false,ω 0,ω 0] 149 (0,0))):=κ (by rw[<-N];exact qs (qo (qo (qo (qo ac.o ⟨w.heap.size,1,none⟩ _ (by show w.heap.size+2≠w.heap.size;omega)) ⟨w.heap.size,3,none⟩ _ (by show w.heap.size+2≠w.heap.size;omega)) ⟨w.heap.size,4,none⟩ _ (by show w.heap.size+2≠w.heap.size;omega)) ⟨w.heap.size,5,none⟩ _ (by show w.heap.size+2≠w.heap.size;omega)) _);have ae:Hid (W1.heap[w.heap.size+3]? =some (.cells #[μ false,υ 0,φ 0,ω 0,ω 0] 60 (0,0))):=κ (by rw[<-N];exact qs (qo (qo (qo (qo aa.o ⟨w.heap.size,1,none⟩ _ (by show w.heap.size+3≠w.heap.size;omega)) ⟨w.heap.size,3,none⟩ _ (by show w.heap.size+3≠w.heap.size;omega)) ⟨w.heap.size,4,none⟩ _ (by show w.heap.size+3≠w.heap.size;omega)) ⟨w.heap.size,5,none⟩ _ (by show w.heap.size+3≠w.heap.size;omega)) _);have ao:Hid (W1.heap[w1.heap.size]? =some (.cells #[μ I,υ J,φ sq,ω Z,ω d,ω X] 429 (0,0))):=κ (by rw[<-N];exact qC η);have aF:w.heap.size+3<w1.heap.size:=qn aa.o;rw[N];clear N ag G ac aa aA aB aC aD av aw ax ay am af;have ap: ∀x:qz (λb=>b=w.heap.size+2∨b=w.heap.size+3) W1,x.w'.rangeAt w.heap.size 0 [ω d,φ Q,ω st,true,ω Z,ω X]:=λx=>xy (x.h.blk au.o τ)
 have aq: ∀x:qz (λb=>b=w.heap.size+2∨b=w.heap.size+3) W1,x.w'.rangeAt w1.heap.size 0 [μ I,υ J,φ sq,ω Z,ω d]:=λx=>by
  have:=xy (cs:=[μ I,υ J,φ sq,ω Z,ω d,ω X]) (x.h.blk ao.o τ);intro j v ak;refine this j v ?_;have az:=(List.getElem?_eq_some_iff.1 ak).1;rw[<-ak];exact List.getElem?_append_left (l₂:=[ω X]) az
 refine QN (λb=>b=w.heap.size+2∨b=w.heap.size+3) W1 4 5 [3,4] ?_;refine jh rfl rfl (qi σ) 149 (.tmp 3) rfl w.heap.size 0 rfl [ω d,φ Q,ω st,true,ω Z,ω X] _ (λw' ab=>by obtain⟨x,rfl⟩:=ab;exact ap x) underlying149 rfl ξ ?_;intro K H;go_simp;refine H _ ?_;clear H K
 refine Qs1 ?_
 refine jh rfl rfl (qi σ) 60 (.tmp 26) rfl w1.heap.size 0 rfl [μ I,υ J,φ sq,ω Z,ω d] _ (λw' ab=>by obtain⟨x,rfl⟩:=ab;exact aq x) underlying60 rfl ξ ?_;intro K H;go_simp;refine H _ ?_;clear H K;refine jR rfl rfl ?_;intro K H;refine jr 149 (.tmp 6) (.tmp 25) rfl (w.heap.size+2) 149 _ #[ω d,φ Q,ω st,true,ω Z,ω X] rfl rfl (qr ad.o 1) ξ rfl (all_oneCell_toArray (by simp[Value.oneCell'])) ?_;refine⟨qi (((qg.refl (λb=>b=w.heap.size+2∨b=w.heap.size+3) W1).drewN 1).row (g:=w.heap.size+2) (Or.inl rfl) _), ?_⟩;go_simp;refine H _ _ ?_;clear H K;refine zY rfl rfl ζ ?_;intro K H;refine jr 60 (.tmp 7) (.tmp 27) rfl (w.heap.size+3) 60 _ #[μ I,υ J,φ sq,ω Z,ω d] rfl rfl (qS (qr ae.o 1) _ τ) ξ rfl (all_oneCell_toArray (by simp[Value.oneCell'])) ?_;refine⟨trivial, ?_⟩;go_simp;refine H _ _ ?_;clear H K;refine qA ?_;go_wp2;refine bodyPost_ret (v:= .tuple #[θ #[ω d,φ Q,ω st,true,ω Z,ω X],θ #[μ I,υ J,φ sq,ω Z,ω d]]) (EN results201 _ _ (w.heap.size+2) (w.heap.size+3) 149 60 #[ω d,φ Q,ω st,true,ω Z,ω X] #[μ I,υ J,φ sq,ω Z,ω d] _ _ rfl rfl (qS (jY (qr ad.o 1) _) _ τ) (jY (qS (qr ae.o 1) _ τ) _) underlying149 rfl ξ underlying60 rfl ξ) rfl ?_;exact⟨rfl,(xb _ _ _).to_more ((xb _ _ _).to_more (ar.o.dr 1) (λk e=>by rw[e];exact Nat.le_add_right _ _)) (λk e=>by rw[e];exact Nat.le_add_right _ _)⟩
end
end Go.Proofs.YtlmllmonabafjaaGreatDoor
