/- Texts of this proof, one behind the other. -/
import Derived.Test.YtampcbncgofkoaaGreatDoorPk42
import Derived.Test.YtampcbncgofkoaaGreatDoorPk41
import Derived.Test.YtampcbncgofkoaaGreatDoorPk11
set_option linter.unusedSimpArgs false
set_option linter.unusedVariables false
set_option maxRecDepth 100000
set_option maxHeartbeats 16000000
namespace Go.Proofs.YtampcbncgofkoaaGreatDoor
open Go.RowKit Go.St
theorem B9t (k n:Int) (w:World):Calls Tryz.prog 9 #[.int .i64 k,.int .i64 n] w fun e w'=>e=.returned (.agg #[.int .i64 k,.int .i64 n,.slice none 0 0])∧Below w.heap.size w w':=by
 have hB:=G8 w (.cells #[.int .i64 k,.int .i64 n,.slice none 0 0] 40)
 have hT:=I6 w 40 #[.int .i64 k,.int .i64 n,.slice none 0 0]
 obtain ⟨g1,g2⟩:=hT.cells
 go_enter Tryz.func9,Tryz.ntmps9
 go_wp2_with ((with_reducible refine bodyPost_ret (v:=.agg #[.int .i64 k,.int .i64 n,.slice none 0 0]) ?ra1 ?rb1 ?rc1);go_must (case ra1=>simp [results,Tryz.results9,go_sem,g1]);go_must (case rb1=>rfl);go_must (case rc1=>exact ⟨rfl,hB⟩))
theorem B9q (t:C5) (ts:List Value) (okt okd:Nat→Prop) (base:Nat) (w:World) (h:I5.rep okt w ts t) (l:List Do) (da:Option Addr) (dc:Nat) (hd:C7 doS 40 okd base w da l.length dc l) (hbase:base≤w.heap.size) (hne:∀ b,okt b→blk da≠some b) (hl:l.length≤1000):
  Calls Tryz.prog 7 #[.agg ts.toArray,.slice da l.length dc] w fun e w'=>∃ (da':Option Addr) (dc':Nat),e=.returned (.slice da' (B85 t l).length dc')∧C7 doS 40 okd base w' da' (B85 t l).length dc' (B85 t l)∧B8b base da w da' w':=by
 obtain ⟨i0,gi,gz0,gz1,gz2⟩:=info_parts B92
 have hT:=h
 obtain ⟨la,lc0,rfl,htn,htr⟩:=h
 have hb0:=G8 w (.cells #[.int .i64 t.n,.slice la t.links.length lc0] 24)
 have hT0:=I6 w 24 #[.int .i64 t.n,.slice la t.links.length lc0]
 have hO0:=hd.below hb0
 have hG0:B8b base da w da (w.alloc (.cells #[.int .i64 t.n,.slice la t.links.length lc0] 24)):=(B8b.refl _ _ _).step hb0 hbase
 have hTN:blk da≠some w.heap.size:=fun e=>by have:=(hd.lt _ e).2;omega
 have hTR:I5.rep (fun b=>okt b∧b<w.heap.size) (w.alloc (.cells #[.int .i64 t.n,.slice la t.links.length lc0] 24)) [.int .i64 t.n,.slice la t.links.length lc0] t:=I5.mono hT (fun b hb ho=>⟨⟨ho,hb⟩,hb0.block b hb⟩)
 have HNE:=Lib.hid hne
 go_enter Tryz.func7,Tryz.ntmps7
 go_wp2
 generalize w.alloc _=w0 at *
 have hw0b:base≤w0.heap.size:=Nat.le_trans hbase hG0.size
 generalize w.heap.size=tb at *
 clear hd hb0 hT htr hne
 go_loopw [1,10] (fun lv idx wr=>∃ (j:Nat) (cur:List Do) (da1:Option Addr) (dc1:Nat),lv=.slice da1 cur.length dc1∧idx=.int .i64 j∧j≤10∧Hid (B85 t l=B8f t (10 - j) cur)∧cur.length≤1000∧C7 doS 40 okd base wr da1 cur.length dc1 cur∧B8b base da w0 da1 wr) (fun _ idx _=>10 - (intOf idx).toNat)
 case atStart=>exact ⟨0,l,da,dc,rfl,rfl,Nat.zero_le _,Lib.hid rfl,hl,hO0,B8b.refl _ _ _⟩
 case round=>
  clear hO0
  obtain ⟨j,cur,da1,dc1,rfl,rfl,hj,HD,hcl,hO,hG⟩:=hrel
  rename World=>wo
  by_cases hlt:j<10
  case neg=>
   have b1:¬(j:Int)<10:=by omega
   have e10:B85 t l=cur:=by rw [HD.out,show 10 - j=0 by omega];rfl
   have HE:=Lib.hid e10
   clear HD e10
   go_wp2
   go_ret;rw [HE.out];exact ⟨_,_,rfl,hO,hG0.trans hG⟩
  have b1:(j:Int)<10:=by omega
  have hT1:=hG.frm.blk hT0 (.inl hTN)
  have hTr1:I5.rep (fun b=>okt b∧b<tb) wo [.int .i64 t.n,.slice la t.links.length lc0] t:=hG.frm.rep' hTR (fun b hb=>.inl (HNE.out b hb.1))
  have hQ:∀ b,((okt b∧b<tb)∨okd b)∨wo.heap.size≤b→blk da1≠some b:=by
   have htb:=hT0.lt
   have hOl:=hO.lt
   obtain ⟨_,_,_,_,h4,_⟩:=hO
   rintro b ((⟨h1,h2⟩|h1)|h1) e
   ·rcases hG.free with h3|h3
    ·exact HNE.out b h1 (h3▸e)
    ·have:=h3 b e;omega
   ·exact h4 b e h1
   ·have:=(hOl b e).2;omega
  have HQ:=Lib.hid hQ
  have hwob:base≤wo.heap.size:=Nat.le_trans hw0b hG.size
  have HF:=Lib.hid (B7b t cur hcl)
  have HD2:Hid (B85 t l=if B87 (D9 t cur).1=[] then cur else B8f t (10 - (j+1)) (cur++B87 (D9 t cur).1)):=Lib.hid (by rw [HD.out,show 10 - j=(10 - (j+1))+1 by omega];rfl)
  have HPL:=Lib.hid (B53 t _ _ wo hTr1 cur da1 dc1 okd hO.E)
  obtain ⟨t1,t2⟩:=hT1.cells
  have htl:=hT1.lt
  clear HD hTr1
  generalize D9 t cur=RR at *
  obtain ⟨n,es,fe,ff⟩:=RR
  dsimp only at *
  go_wp2_with fail
  refine HPL.out.mono ?_
  rintro e w2 ⟨cs,ea,ec,rfl,hn2,he2,hb2⟩
  have hO2:=hO.below hb2
  have hG2:=hG.step hb2 hw0b
  clear HPL t1 t2 htl hQ
  obtain ⟨n0,n1,n2,y0,y1,y2,wa,wc,sa,sc,oa,oc,ba,bc,pa,pc,pl,lc,rfl,hst,hnu,hnow,hnext,hwt,hks,hko,hkb,hkp,hkl⟩:=A0g.open8 hn2
  obtain ⟨lp0,lp1,lp2⟩:=B7.st (P:=Tryz.prog) hnow
  obtain ⟨lq0,lq1,lq2⟩:=B7.st (P:=Tryz.prog) hnext
  have hbx:Below w2.heap.size w2 ((w2.alloc (.cells #[.int .i64 n.ctl.stage,n0,n1,n2,y0,y1,y2,.int .i64 n.ctl.num,.slice wa n.ctl.waits.length wc,.slice sa n.switches.length sc,.slice oa n.orders.length oc,.slice ba n.backs.length bc,.slice pa n.packets.length pc,.slice pl n.plans.length lc] 50)).alloc (.cells #[.int .i64 fe,.int .i64 ff] 29)):=A1t _ _ _
  have hW:A6 ((w2.alloc (.cells #[.int .i64 n.ctl.stage,n0,n1,n2,y0,y1,y2,.int .i64 n.ctl.num,.slice wa n.ctl.waits.length wc,.slice sa n.switches.length sc,.slice oa n.orders.length oc,.slice ba n.backs.length bc,.slice pa n.packets.length pc,.slice pl n.plans.length lc] 50)).alloc (.cells #[.int .i64 fe,.int .i64 ff] 29)) w2.heap.size 50 #[.int .i64 n.ctl.stage,n0,n1,n2,y0,y1,y2,.int .i64 n.ctl.num,.slice wa n.ctl.waits.length wc,.slice sa n.switches.length sc,.slice oa n.orders.length oc,.slice ba n.backs.length bc,.slice pa n.packets.length pc,.slice pl n.plans.length lc]:=(A6.new rfl).alloc _
  have hO3:=hO2.below hbx
  have hGo:=hG2.step hbx hw0b
  have hko3:=(hko.anyOk (ok':=fun b=>blk da1≠some b) (fun b _ ho=>HQ.out b ho)).below hbx
  have hkb3:=(hkb.anyOk (ok':=fun b=>blk da1≠some b) (fun b _ ho=>HQ.out b ho)).below hbx
  have hwN:blk da1≠some w2.heap.size:=fun e=>by have:=(hO2.lt _ e).2;omega
  clear hn2 he2 hnow hnext hwt hks hko hkb hkp hkl hbx hO hO2 hG hG2 hb2
  go_upto_region 4 with fail
  generalize ((w2.alloc (.cells #[.int .i64 n.ctl.stage,n0,n1,n2,y0,y1,y2,.int .i64 n.ctl.num,.slice wa n.ctl.waits.length wc,.slice sa n.switches.length sc,.slice oa n.orders.length oc,.slice ba n.backs.length bc,.slice pa n.packets.length pc,.slice pl n.plans.length lc] 50)).alloc (.cells #[.int .i64 fe,.int .i64 ff] 29))=w3 at *
  generalize w2.heap.size=xb at *
  clear lp0 lp1 lp2 lq0 lq1 lq2
  have hw3b:base≤w3.heap.size:=Nat.le_trans hw0b hGo.size
  have hlx:=HF.out.sw
  obtain ⟨x1,x2⟩:=hW.cells
  have hxl:=hW.lt
  go_wp2
  clear x1 x2
  go_loopw [1,8,22] (fun lv sv idx wr=>∃ (s:Nat) (p:List Do) (b:Bool) (da2:Option Addr) (dc2:Nat),lv=.slice da2 (cur.length+p.length) dc2∧sv=.bool b∧idx=.int .i64 s∧s≤n.switches.length∧Hid (p=B8m n s)∧Hid (b=!p.isEmpty)∧p.length≤10000 * s∧C7 doS 40 okd base wr da2 (cur.length+p.length) dc2 (cur++p)∧B8b base da1 w3 da2 wr) (fun _ _ idx _=>n.switches.length - (intOf idx).toNat)
  case atStart=>exact ⟨0,[],false,da1,dc1,rfl,rfl,rfl,Nat.zero_le _,Lib.hid rfl,Lib.hid rfl,Nat.zero_le _,by rw [List.append_nil];exact hO3,B8b.refl _ _ _⟩
  case round=>
   clear hO3
   obtain ⟨s,p,b,da2,dc2,rfl,rfl,rfl,hs,HP,HB,hpl,hO2,hG2⟩:=hrel
   rename World=>wi
   by_cases hlt2:s<n.switches.length
   case neg=>
    have c1:¬(s:Int)<(n.switches.length:Int):=by omega
    have hs2:s=n.switches.length:=by omega
    have HR:Hid (p=B87 n):=Lib.hid (by rw [HP.out,hs2];rfl)
    clear HP hs2
    cases b with
    |false=>
     have hp0:p=[]:=by have:=HB.out;cases p with|nil=>rfl|cons=>simp at this
     have e10:B85 t l=cur:=by rw [HD2.out,if_pos (by rw [←HR.out];exact hp0)]
     have HE:=Lib.hid e10
     subst hp0
     rw [List.append_nil] at hO2
     clear HD2 HF HR HB e10 hpl
     go_wp2
     go_ret;rw [HE.out];exact ⟨_,_,rfl,hO2,hG0.trans (hGo.trans hG2)⟩
    |true=>
     have hp0:p≠[]:=by have:=HB.out;cases p with|nil=>simp at this|cons=>simp
     have e10:B85 t l=B8f t (10 - (j+1)) (cur++p):=by rw [HD2.out,if_neg (by rw [←HR.out];exact hp0),HR.out]
     have hn1:(cur++p).length≤1000:=by rw [HR.out];exact HF.out.next
     have HE:=Lib.hid e10
     clear HD2 HF HR HB hp0 e10
     go_wp2
     case roundEnd=>
      go_roundw
      case rel=>exact ⟨j+1,cur++p,da2,dc2,by rw [List.length_append],by go_num,by omega,HE,hn1,by rw [List.length_append];exact hO2,hGo.trans hG2⟩
      case measure=>simp [intOf]<;>omega
   have c1:(s:Int)<(n.switches.length:Int):=by omega
   have c0:(0:Int)≤(s:Int):=by omega
   obtain ⟨os,hos⟩:∃ os,n.orders[s]? =some os:=⟨_,List.getElem?_eq_getElem (by rw [HF.out.os];exact hlt2)⟩
   obtain ⟨bs,hbs⟩:∃ bs,n.backs[s]? =some bs:=⟨_,List.getElem?_eq_getElem (by rw [HF.out.bs];exact hlt2)⟩
   have hol:=HF.out.ord _ (List.mem_of_getElem? hos)
   have hbl:=HF.out.back _ (List.mem_of_getElem? hbs)
   have c2:(s:Int)<(n.orders.length:Int):=by rw [HF.out.os];omega
   have c3:(s:Int)<(n.backs.length:Int):=by rw [HF.out.bs];omega
   have HPS:=Lib.hid (B6k hos hbs)
   have hWi:=hG2.frm.blk hW (.inl hwN)
   obtain ⟨x1,x2⟩:=hWi.cells
   have hxl:=hWi.lt
   obtain ⟨og,oo,rfl,_,hogl,cs,⟨ra9,rc9,rfl,_⟩,hco⟩:=(hG2.frm.row hko3).get hos
   have e0:=hco 0 _ rfl
   rw [show (F7 E3).size=1 from rfl,Nat.add_zero,Nat.mul_one] at e0
   have HOS:=Lib.hid hos
   have HBS:=Lib.hid hbs
   clear hco hos hbs
   go_wp2
   clear x1 x2 e0
   go_loopw [1,8,31] (fun lv sv idx wr=>∃ (i:Nat) (p2:List Do) (b2:Bool) (da3:Option Addr) (dc3:Nat),lv=.slice da3 (cur.length+p2.length) dc3∧sv=.bool b2∧idx=.int .i64 i∧i≤os.length∧Hid (p2=p++B8k s i)∧Hid (b2=!p2.isEmpty)∧p2.length≤10000 * s+2 * i∧C7 doS 40 okd base wr da3 (cur.length+p2.length) dc3 (cur++p2)∧B8b base da1 w3 da3 wr) (fun _ _ idx _=>os.length - (intOf idx).toNat)
   case atStart=>exact ⟨0,p,b,da2,dc2,rfl,rfl,rfl,Nat.zero_le _,Lib.hid (by simp [B8k]),HB,by omega,hO2,hG2⟩
   case round=>
    clear hO2 hG2 hWi
    obtain ⟨i,p2,b2,da3,dc3,rfl,rfl,rfl,hi,HP2,HB2,hpl2,hO3,hG3⟩:=hrel
    rename World=>wq
    by_cases hlt3:i<os.length
    case pos=>
     have d1:(i:Int)<(os.length:Int):=by omega
     go_wp2_with fail
     refine (B9t _ _ _).mono ?_
     rintro e wq1 ⟨rfl,hbq⟩
     replace hO3:=hO3.below hbq
     replace hG3:=hG3.step hbq hw3b
     clear hbq
     go_wp2_with fail
     refine (B9t _ _ _).mono ?_
     rintro e wq ⟨rfl,hbq⟩
     replace hO3:=hO3.below hbq
     replace hG3:=hG3.step hbq hw3b
     clear hbq
     have hbx:=G8 wq (.cells #[.int .i64 2,.int .i64 (s:Int),.slice none 0 0,.int .i64 3,.int .i64 (s:Int),.slice none 0 0] 40)
     have hE:=I6 wq 40 #[.int .i64 2,.int .i64 (s:Int),.slice none 0 0,.int .i64 3,.int .i64 (s:Int),.slice none 0 0]
     have hO4:=hO3.below hbx
     have hG4:=hG3.step hbx hw3b
     have hz4:base≤(wq.alloc (.cells #[.int .i64 2,.int .i64 (s:Int),.slice none 0 0,.int .i64 3,.int .i64 (s:Int),.slice none 0 0] 40)).heap.size:=Nat.le_trans hw3b hG4.size
     have hsrc:=B7t (ok:=okd) hE (by omega)
     clear hbx hO3 hG3
     go_wp2_with (at_builtin;go_must (refine H4 (sh:=doS) (n:=cur.length+p2.length) (m:=2) rfl _ _ 37 rfl 40 i0 (.agg #[.int .i64 0,.int .i64 0,.slice none 0 0]) 40 Tryz.underlying37 gi gz0 gz1 gz2 rfl (by decide) rfl hO4 rfl rfl hsrc (by simp only [maxLen];omega) (by omega) hz4 ?_);go_must (intro da4 dc4 wr4 hO5 hg5 hd5))
     case roundEnd=>
      have hG5:=hG4.app hO4.lt hg5 hd5 hw3b
      have hlen5:(p2++[B8a s,B86 s]).length=p2.length+2:=by simp
      rw [List.append_assoc,Nat.add_assoc,←hlen5] at hO5
      go_roundw
      case rel=>exact ⟨i+1,p2++[B8a s,B86 s],true,da4,dc4,by rw [hlen5,Nat.add_assoc],rfl,by go_num,by omega,Lib.hid (by rw [HP2.out,B76,List.append_assoc]),Lib.hid (by simp),by rw [hlen5];omega,hO5,hG5⟩
      case measure=>simp [intOf]<;>omega
    have d1:¬(i:Int)<(os.length:Int):=by omega
    have hi2:i=os.length:=by omega
    have HP3:Hid (p2=p++B8k s os.length):=Lib.hid (by rw [HP2.out,hi2])
    clear HP2 hi2
    have hWq:=hG3.frm.blk hW (.inl hwN)
    obtain ⟨x1,x2⟩:=hWq.cells
    have hxl:=hWq.lt
    obtain ⟨bg,bo,rfl,_,hbgl,cs,⟨ra8,rc8,rfl,_⟩,hcb⟩:=(hG3.frm.row hkb3).get HBS.out
    have e0:=hcb 0 _ rfl
    rw [show (F7 C2).size=1 from rfl,Nat.add_zero,Nat.mul_one] at e0
    clear hcb
    go_wp2
    clear x1 x2 e0
    go_loopw [1,8,47] (fun lv sv idx wr=>∃ (i:Nat) (p3:List Do) (b3:Bool) (da3:Option Addr) (dc3:Nat),lv=.slice da3 (cur.length+p3.length) dc3∧sv=.bool b3∧idx=.int .i64 i∧i≤bs.length∧Hid (p3=p2++List.replicate i (B86 s))∧Hid (b3=!p3.isEmpty)∧p3.length≤10000 * s+8000+i∧C7 doS 40 okd base wr da3 (cur.length+p3.length) dc3 (cur++p3)∧B8b base da1 w3 da3 wr) (fun _ _ idx _=>bs.length - (intOf idx).toNat)
    case atStart=>exact ⟨0,p2,b2,da3,dc3,rfl,rfl,rfl,Nat.zero_le _,Lib.hid (by simp),HB2,by omega,hO3,hG3⟩
    case round=>
     clear hO3 hG3 hWq HB2 hpl2 hpl HB
     obtain ⟨m,p3,b3,da3,dc3,rfl,rfl,rfl,hm,HP2,HB2,hpl2,hO3,hG3⟩:=hrel
     rename World=>wq
     by_cases hlt4:m<bs.length
     case pos=>
      have d2:(m:Int)<(bs.length:Int):=by omega
      go_wp2_with fail
      refine (B9t _ _ _).mono ?_
      rintro e wq ⟨rfl,hbq⟩
      replace hO3:=hO3.below hbq
      replace hG3:=hG3.step hbq hw3b
      clear hbq
      have hbx:=G8 wq (.cells #[.int .i64 3,.int .i64 (s:Int),.slice none 0 0] 40)
      have hE:=I6 wq 40 #[.int .i64 3,.int .i64 (s:Int),.slice none 0 0]
      have hO4:=hO3.below hbx
      have hG4:=hG3.step hbx hw3b
      have hz4:base≤(wq.alloc (.cells #[.int .i64 3,.int .i64 (s:Int),.slice none 0 0] 40)).heap.size:=Nat.le_trans hw3b hG4.size
      have hsrc:=B66 (ok:=okd) (d:=B86 s) hE (I64.small (n:=3) (by decide) (by decide)) (I64.small (by show -1000000000000≤(s:Int);omega) (by show (s:Int)≤1000000000000;omega)) rfl
      clear hbx hO3 hG3
      go_wp2_with (at_builtin;go_must (refine H4 (sh:=doS) (n:=cur.length+p3.length) (m:=1) rfl _ _ 37 rfl 40 i0 (.agg #[.int .i64 0,.int .i64 0,.slice none 0 0]) 40 Tryz.underlying37 gi gz0 gz1 gz2 rfl (by decide) rfl hO4 rfl rfl hsrc (by simp only [maxLen];omega) (by omega) hz4 ?_);go_must (intro da4 dc4 wr4 hO5 hg5 hd5))
      case roundEnd=>
       have hG5:=hG4.app hO4.lt hg5 hd5 hw3b
       have hlen5:(p3++[B86 s]).length=p3.length+1:=by simp
       rw [List.append_assoc,Nat.add_assoc,←hlen5] at hO5
       go_roundw
       case rel=>exact ⟨m+1,p3++[B86 s],true,da4,dc4,by rw [hlen5,Nat.add_assoc],rfl,by go_num,by omega,Lib.hid (by rw [HP2.out,List.replicate_succ',List.append_assoc]),Lib.hid (by simp),by rw [hlen5];omega,hO5,hG5⟩
       case measure=>simp [intOf]<;>omega
     have d2:¬(m:Int)<(bs.length:Int):=by omega
     have hm2:m=bs.length:=by omega
     have HP4:Hid (p3=B8m n (s+1)):=Lib.hid (by rw [HP2.out,hm2,HP3.out,HPS.out,HP.out])
     clear HP2 HP3 HPS HP hm2
     go_wp2
     case roundEnd=>
      go_roundw
      case rel=>exact ⟨s+1,p3,b3,da3,dc3,rfl,rfl,by go_num,by omega,HP4,HB2,by omega,hO3,hG3⟩
      case measure=>simp [intOf]<;>omega
end Go.Proofs.YtampcbncgofkoaaGreatDoor
namespace Go.St
open Go.RowKit
theorem B9l {α:Type} {sh:D1 α} {ok:Nat→Prop} {w:World} {b:Nat} {e:TypeId} {cs:List Value} {x:α} (h:A6 w b e cs.toArray) (hr:sh.rep ok w cs x):D7 sh ok w (some ⟨b,0,none⟩) [x]:=by
  refine .inr ⟨b,0,rfl,fun i y hy=>?_⟩
  match i,hy with
  |0,hy=>
    obtain rfl:x=y:=by simpa using hy
    refine ⟨cs,hr,fun j c hj=>?_⟩
    simp only [Nat.zero_mul,Nat.zero_add]
    rw [h.cells.1 j]
    simpa using hj
  |i+1,hy=>simp at hy
theorem B9g (n:Nat):(C2e n).links.length=n - 1:=by simp [C2e]
theorem B9n {n i:Nat} (h:i<n - 1):(C2e n).links.take (i+1)=(C2e n).links.take i++[⟨(i:Int),(i:Int)+1,1⟩]:=by
 rw [List.take_add_one]
 simp [C2e,h]
end Go.St
namespace Go.Proofs.YtampcbncgofkoaaGreatDoor
open Go.RowKit Go.St
theorem B99:(Tryz.prog.info? 87).map (fun i=>(i.zero,i.size,i.bytes))=some (some (.agg #[.int .i64 0,.int .i64 0,.int .i64 0]),3,24):=by kernel_rfl
theorem B9j (n:Nat) (hn:n≤8) (w:World):Calls Tryz.prog 11 #[.int .i64 (n:Int)] w fun e w'=>∃ (la:Option Addr) (lc:Nat),e=.returned (.agg #[.int .i64 (n:Int),.slice la (n - 1) lc])∧C7 A0e 87 (fun _=>False) (w.heap.size+2) w' la (n - 1) lc (C2e n).links∧Below w.heap.size w w'∧w.heap.size+2≤w'.heap.size:=by
 obtain ⟨i0,gi,gz0,gz1,gz2⟩:=info_parts B99
 have hb0:Below w.heap.size w ((w.alloc (.cells #[.int .i64 0,.slice none 0 0] 24)).alloc (.cells #[.int .i64 (n:Int),.slice none 0 0] 24)):=A1t _ _ _
 have hR0:A6 ((w.alloc (.cells #[.int .i64 0,.slice none 0 0] 24)).alloc (.cells #[.int .i64 (n:Int),.slice none 0 0] 24)) w.heap.size 24 #[.int .i64 0,.slice none 0 0]:=(A6.new rfl).alloc _
 have hT0:A6 ((w.alloc (.cells #[.int .i64 0,.slice none 0 0] 24)).alloc (.cells #[.int .i64 (n:Int),.slice none 0 0] 24)) (w.heap.size+1) 24 #[.int .i64 (n:Int),.slice none 0 0]:=A6.new (by simp)
 have hO0:C7 A0e 87 (fun _=>False) (w.heap.size+2) ((w.alloc (.cells #[.int .i64 0,.slice none 0 0] 24)).alloc (.cells #[.int .i64 (n:Int),.slice none 0 0] 24)) none 0 0 []:=C7.nil _ _ _ _ _ (fun _ h=>h.elim)
 have hs0:((w.alloc (.cells #[.int .i64 0,.slice none 0 0] 24)).alloc (.cells #[.int .i64 (n:Int),.slice none 0 0] 24)).heap.size=w.heap.size+2:=by simp
 have hLN:=B9g n
 go_enter Tryz.func11,Tryz.ntmps11
 go_wp2
 generalize ((w.alloc (.cells #[.int .i64 0,.slice none 0 0] 24)).alloc (.cells #[.int .i64 (n:Int),.slice none 0 0] 24))=w0 at *
 generalize hrb:w.heap.size=rb at hR0 hT0 hO0 hs0 ⊢
 have HRB:=Lib.hid hrb
 clear hrb
 go_loopw [4] (fun idx wr=>∃ (i:Nat) (la:Option Addr) (lc:Nat),idx=.int .i64 i∧i≤n - 1∧A6 wr (rb+1) 24 #[.int .i64 (n:Int),.slice la i lc]∧A6 wr rb 24 #[.int .i64 0,.slice none 0 0]∧C7 A0e 87 (fun _=>False) (rb+2) wr la i lc ((C2e n).links.take i)∧Below w.heap.size w wr∧rb+2≤wr.heap.size) (fun idx _=>n - (intOf idx).toNat)
 case atStart=>exact ⟨0,none,0,rfl,Nat.zero_le _,hT0,hR0,by simpa using hO0,hb0,by omega⟩
 case round=>
  clear hT0 hR0 hO0 hb0 hs0
  obtain ⟨i,la,lc,rfl,hi,hT,hR,hO,hb,hsz⟩:=hrel
  rename World=>wo
  obtain ⟨t1,t2⟩:=hT.cells
  have htl:=hT.lt
  by_cases hlt:i<n - 1
  case neg=>
   have b1:¬(i:Int)+1<(n:Int):=by omega
   obtain rfl:i=n - 1:=by omega
   obtain ⟨r1,r2⟩:=hR.cells
   have hrl:=hR.lt
   have htk:(C2e n).links.take (n - 1)=(C2e n).links:=List.take_of_length_le (by omega)
   rw [htk] at hO
   have hb9:Below w.heap.size w ((wo.setCell ⟨rb,0,none⟩ (.int .i64 (n:Int))).setCell ⟨rb,1,none⟩ (.slice la (n - 1) lc)):=(hb.setCell (p:=⟨rb,0,none⟩) (by show w.heap.size≤rb;rw [HRB.out];exact Nat.le_refl _) _).setCell (p:=⟨rb,1,none⟩) (by show w.heap.size≤rb;rw [HRB.out];exact Nat.le_refl _) _
   have hO9:=(hO.setCell (a:=⟨rb,0,none⟩) (by show rb<rb+2;omega) (.int .i64 (n:Int))).setCell (a:=⟨rb,1,none⟩) (by show rb<rb+2;omega) (.slice la (n - 1) lc)
   have hR9:=(hR.set 0 (.int .i64 (n:Int))).set 1 (.slice la (n - 1) lc)
   simp only [St.tS,St.tC,St.tZ] at hR9
   obtain ⟨c1,c2⟩:=hR9.cells
   go_wp2_with ((with_reducible refine bodyPost_ret (v:=.agg #[.int .i64 (n:Int),.slice la (n - 1) lc]) ?ra1 ?rb1 ?rc1);go_must (case ra1=>simp [results,Tryz.results11,go_sem,c1]);go_must (case rb1=>rfl);go_must (case rc1=>exact ⟨la,lc,rfl,by rw [HRB.out];exact hO9,hb9,by rw [HRB.out];simp;omega⟩))
  have b1:(i:Int)+1<(n:Int):=by omega
  have HTK:=Lib.hid (B9n hlt)
  have hbx:=G8 wo (.cells #[.int .i64 (i:Int),.int .i64 ((i:Int)+1),.int .i64 1] 87)
  have hE:=I6 wo 87 #[.int .i64 (i:Int),.int .i64 ((i:Int)+1),.int .i64 1]
  have hO4:=hO.below hbx
  have hT4:=hT.under hbx
  have hR4:=hR.under hbx
  have hb4:=hb.trans (hbx.mono hb.size)
  have hz4:rb+2≤(wo.alloc (.cells #[.int .i64 (i:Int),.int .i64 ((i:Int)+1),.int .i64 1] 87)).heap.size:=Nat.le_trans hsz hbx.size
  have hsrc:=B9l (sh:=A0e) (ok:=fun _=>False) (x:=⟨(i:Int),(i:Int)+1,1⟩) hE ⟨rfl,I64.small (by show -1000000000000≤(i:Int);omega) (by show (i:Int)≤1000000000000;omega),I64.small (by show -1000000000000≤(i:Int)+1;omega) (by show (i:Int)+1≤1000000000000;omega),I64.small (n:=1) (by decide) (by decide)⟩
  clear hO hT hR hb hbx hE
  go_wp2_with (at_builtin;go_must (refine H4 (sh:=A0e) (n:=i) (m:=1) rfl _ _ 22 rfl 87 i0 (.agg #[.int .i64 0,.int .i64 0,.int .i64 0]) 24 Tryz.underlying22 gi gz0 gz1 gz2 rfl (by decide) rfl hO4 rfl rfl hsrc (by simp only [maxLen];omega) (by omega) hz4 ?_);go_must (intro la5 lc5 w5 hO5 hg5 hd5;have hb5:Below (rb+2) _ w5:=D6 hg5 (fun k hk=>(hO4.lt k hk).1) hz4;have hT5:=hT4.below hb5 (by omega);have hR5:=hR4.below hb5 (by omega);obtain ⟨q1,q2⟩:=hT5.cells;have hql:=hT5.lt))
  case roundEnd=>
   have hT6:=hT5.set 1 (.slice la5 (i+1) lc5)
   simp only [St.tS,St.tC,St.tZ] at hT6
   have hR6:=hR5.setOther (a:=⟨rb+1,1,none⟩) (by show rb≠rb+1;omega) (.slice la5 (i+1) lc5)
   have hO6:=hO5.setCell (a:=⟨rb+1,1,none⟩) (by show rb+1<rb+2;omega) (.slice la5 (i+1) lc5)
   have hb6:Below w.heap.size w (w5.setCell ⟨rb+1,1,none⟩ (.slice la5 (i+1) lc5)):=(hb4.trans (hb5.mono (by rw [HRB.out];omega))).setCell (p:=⟨rb+1,1,none⟩) (by show w.heap.size≤rb+1;rw [HRB.out];omega) _
   have hz6:rb+2≤(w5.setCell ⟨rb+1,1,none⟩ (.slice la5 (i+1) lc5)).heap.size:=by have:=hb5.size;simp;omega
   go_roundw
   case rel=>exact ⟨i+1,la5,lc5,by go_num,by omega,hT6,hR6,by rw [HTK.out];exact hO6,hb6,hz6⟩
   case measure=>simp [intOf]<;>omega
end Go.Proofs.YtampcbncgofkoaaGreatDoor
namespace Go.St
open Go.RowKit
theorem B95 {w:World} {n:Nat} {la:Option Addr} {lc base:Nat} {e:TypeId} (hn:n≤8) (h:C7 A0e e (fun _=>False) base w la (n - 1) lc (C2e n).links):I5.rep (fun b=>base≤b) w [.int .i64 (n:Int),.slice la (n - 1) lc] (C2e n):=by
 refine ⟨la,lc,by rw [B9g];rfl,I64.small (by show -1000000000000≤(n:Int);omega) (by show (n:Int)≤1000000000000;omega),h.row (fun _ h=>h.elim) (fun k hk=>(h.lt k hk).1)⟩
theorem B9h {w:World} {b:Nat} {e:TypeId} {x y:Int} (h:A6 w b e #[.int .i64 x,.int .i64 y,.slice none 0 0,.slice none 0 0]) (hx:I64 x) (hy:I64 y):A8 H6 (fun k=>k=b) w (some ⟨b,0,none⟩) 1 [⟨x,y,[],[]⟩]:=by
  refine ⟨Nat.le_refl _,by decide,.inr ⟨b,0,rfl,rfl,h.lt,fun i z hz=>?_⟩⟩
  match i,hz with
  |0,hz=>
    obtain rfl:_=z:=by simpa using hz
    refine ⟨_,⟨none,0,none,0,rfl,hx,hy,A8.nil _ _ _ _,A8.nil _ _ _ _⟩,fun j c hj=>?_⟩
    simp only [Nat.zero_mul,Nat.zero_add]
    rw [h.cells.1 j]
    simpa using hj
  |i+1,hz=>simp at hz
theorem B9w {w:World} {fb:Nat} {e:TypeId} {x:E0} (hf:A8 H6 (fun k=>k=fb) w (some ⟨fb,0,none⟩) 1 [x]) (hfb:fb<w.heap.size) {base:Nat} (hb:base≤w.heap.size):C7 doS e (fun k=>k=fb) base (w.alloc (.cells #[.int .i64 1,.int .i64 0,.slice (some ⟨fb,0,none⟩) 1 1] e)) (some ⟨w.heap.size,0,none⟩) 1 1 [B9y [x]]:=by
  refine C7.lit (cs:=[.int .i64 1,.int .i64 0,.slice (some ⟨fb,0,none⟩) 1 1]) rfl rfl hb (by decide) (fun i d hd=>?_) (fun b hb=>by rw [hb];exact hfb)
  match i,hd with
  |0,hd=>
    obtain rfl:_=d:=by simpa using hd
    exact ⟨_,1,rfl,I64.small (n:=1) (by decide) (by decide),I64.small (n:=0) (by decide) (by decide),hf.below ((Below.refl _ _).alloc (Nat.le_refl _) _)⟩
  |i+1,hd=>simp at hd
end Go.St
namespace Go.Proofs.YtampcbncgofkoaaGreatDoor
open Go.RowKit Go.St
theorem B9f (w:World):Calls Tryz.prog 4 #[] w fun e w'=>e=.returned (.bool true)∧Below w.heap.size w w':=by
  have HL:=Lib.hid (fun w=>B9j 3 (by decide) w)
  go_enter Tryz.func4,Tryz.ntmps4
  go_wp2_with fail
  refine (HL.out _).mono ?_
  rintro e w1 ⟨la,lc,rfl,hL1,hB1,_⟩
  have hF:=I6 w1 56 #[.int .i64 0,.int .i64 2,.slice none 0 0,.slice none 0 0]
  have hbx:=G8 w1 (.cells #[.int .i64 0,.int .i64 2,.slice none 0 0,.slice none 0 0] 56)
  have hFr:=B9h hF (I64.small (n:=0) (by decide) (by decide)) (I64.small (n:=2) (by decide) (by decide))
  have hO2:=B9w (e:=40) (base:=w1.heap.size+1) hFr hF.lt (by simp)
  have hb2:Below w1.heap.size w1 ((w1.alloc (.cells #[.int .i64 0,.int .i64 2,.slice none 0 0,.slice none 0 0] 56)).alloc (.cells #[.int .i64 1,.int .i64 0,.slice (some ⟨w1.heap.size,0,none⟩) 1 1] 40)):=A1t _ _ _
  have hT2:=I5.below (I5.mono (B95 (by decide) hL1) (ok':=fun b=>b<w1.heap.size) (fun b hl _=>⟨hl,rfl⟩)) hb2
  have hB2:=hB1.trans (hb2.mono hB1.size)
  have hz1:(w1.alloc (.cells #[.int .i64 0,.int .i64 2,.slice none 0 0,.slice none 0 0] 56)).heap.size=w1.heap.size+1:=by simp
  have hz2:w1.heap.size+1≤((w1.alloc (.cells #[.int .i64 0,.int .i64 2,.slice none 0 0,.slice none 0 0] 56)).alloc (.cells #[.int .i64 1,.int .i64 0,.slice (some ⟨w1.heap.size,0,none⟩) 1 1] 40)).heap.size:=by simp
  rw [hz1] at hO2
  clear hbx hFr hF hL1 hz1 hb2
  go_wp2_with fail
  generalize ((w1.alloc (.cells #[.int .i64 0,.int .i64 2,.slice none 0 0,.slice none 0 0] 56)).alloc _)=w2 at *
  generalize hs1:w1.heap.size=s1 at hO2 hT2 hz2 ⊢
  have HS1:=Lib.hid hs1
  clear hs1
  refine (B9q (C2e 3) _ (fun b=>b<s1) (fun k=>k=s1) (s1+1) w2 hT2 l9 _ _ hO2 hz2 (fun b hb e=>by have h9:s1+1=b:=(by simpa [Go.St.blk] using e);omega) (by decide)).mono ?_
  rintro e w3 ⟨ma,mc,rfl,hO3,hG3⟩
  have hB3:=hB2.trans (hG3.below.mono (by have:=HS1.out;have:=hB1.size;omega))
  obtain ⟨p1,p2,p3⟩:=B9d
  generalize B85 (C2e 3) l9=mm at *
  clear hO2 hT2 hG3 hz2 hB2
  go_wp2_with fail
  refine (HL.out _).mono ?_
  rintro e w4 ⟨la,lc,rfl,hL4,hb4,_⟩
  have hB4:=hB3.trans (hb4.mono hB3.size)
  have HPL:=Lib.hid (A2z (C2e 3) _ _ w4 (B95 (by decide) hL4) mm ma mc _ ((hO3.below hb4).row (ok':=fun _=>True) (fun _ _=>trivial) (fun _ _=>trivial)))
  clear hL4 hb4 hO3 hB3
  generalize D9 (C2e 3) mm=RR at *
  obtain ⟨n,es,fe,ff⟩:=RR
  dsimp only at *
  obtain ⟨rfl,rfl⟩:fe=0∧ff=0:=by simpa using p1
  obtain ⟨s,hs,hsl⟩:∃ s,n.switches[1]? =some s∧s.rules.length=1:=by
    cases hq:n.switches[1]? with
    |none=>rw [hq] at p3;simp at p3
    |some s=>rw [hq] at p3;exact ⟨s,rfl,by simpa using p3⟩
  have HP2:=Lib.hid p2
  clear p1 p2 p3
  go_wp2_with fail
  refine HPL.out.mono ?_
  rintro e w7 ⟨cs,ea,ec,rfl,hn7,he7,hb7⟩
  have hB7:=hB4.trans (hb7.mono hB4.size)
  obtain ⟨n0,n1,n2,y0,y1,y2,wa,wc,sa,sc,oa,oc,ba,bc,pa,pc,pl,lc2,hcs,hst,hnu,hnow,hnext,hwt,hks,hko,hkb,hkp,hkl⟩:=A0g.open8 hn7
  obtain ⟨lp0,lp1,lp2⟩:=B7.st (P:=Tryz.prog) hnow
  obtain ⟨lq0,lq1,lq2⟩:=B7.st (P:=Tryz.prog) hnext
  rw [HP2.out] at hcs
  subst hcs
  obtain ⟨sg,so,rfl,_,hsg,cs,⟨ra,rc,ta,tc,rfl,_,_⟩,hse⟩:=hks.get hs
  rw [hsl] at hse
  have e0:=hse 0 _ rfl
  rw [show E8.size=2 from rfl,Nat.add_zero] at e0
  have k1:(1:Int)<(n.switches.length:Int):=by have:=(List.getElem?_eq_some_iff.1 hs).1;omega
  have hsn:=hks.len_le
  have hbx:Below w7.heap.size w7 ((w7.alloc (.cells #[.int .i64 3,n0,n1,n2,y0,y1,y2,.int .i64 n.ctl.num,.slice wa n.ctl.waits.length wc,.slice (some ⟨sg,so,none⟩) n.switches.length sc,.slice oa n.orders.length oc,.slice ba n.backs.length bc,.slice pa n.packets.length pc,.slice pl n.plans.length lc2] 50)).alloc (.cells #[.int .i64 0,.int .i64 0] 29)):=A1t _ _ _
  have hW:A6 ((w7.alloc (.cells #[.int .i64 3,n0,n1,n2,y0,y1,y2,.int .i64 n.ctl.num,.slice wa n.ctl.waits.length wc,.slice (some ⟨sg,so,none⟩) n.switches.length sc,.slice oa n.orders.length oc,.slice ba n.backs.length bc,.slice pa n.packets.length pc,.slice pl n.plans.length lc2] 50)).alloc (.cells #[.int .i64 0,.int .i64 0] 29)) w7.heap.size 50 #[.int .i64 3,n0,n1,n2,y0,y1,y2,.int .i64 n.ctl.num,.slice wa n.ctl.waits.length wc,.slice (some ⟨sg,so,none⟩) n.switches.length sc,.slice oa n.orders.length oc,.slice ba n.backs.length bc,.slice pa n.packets.length pc,.slice pl n.plans.length lc2]:=(A6.new rfl).alloc _
  have hG:A6 ((w7.alloc (.cells #[.int .i64 3,n0,n1,n2,y0,y1,y2,.int .i64 n.ctl.num,.slice wa n.ctl.waits.length wc,.slice (some ⟨sg,so,none⟩) n.switches.length sc,.slice oa n.orders.length oc,.slice ba n.backs.length bc,.slice pa n.packets.length pc,.slice pl n.plans.length lc2] 50)).alloc (.cells #[.int .i64 0,.int .i64 0] 29)) (w7.heap.size+1) 29 #[.int .i64 0,.int .i64 0]:=A6.new (by simp)
  have u0:=cell_later hbx e0
  have hB8:=hB7.trans (hbx.mono hB7.size)
  have hsg8:sg<(((w7.alloc (.cells #[.int .i64 3,n0,n1,n2,y0,y1,y2,.int .i64 n.ctl.num,.slice wa n.ctl.waits.length wc,.slice (some ⟨sg,so,none⟩) n.switches.length sc,.slice oa n.orders.length oc,.slice ba n.backs.length bc,.slice pa n.packets.length pc,.slice pl n.plans.length lc2] 50)).alloc (.cells #[.int .i64 0,.int .i64 0] 29))).heap.size:=Nat.lt_of_lt_of_le hsg hbx.size
  clear hn7 he7 hb7 hnow hnext hwt hks hko hkb hkp hkl hse hs hsl hbx e0 HPL HL
  go_upto_region 3 with fail
  generalize ((w7.alloc (.cells #[.int .i64 3,n0,n1,n2,y0,y1,y2,.int .i64 n.ctl.num,.slice wa n.ctl.waits.length wc,.slice (some ⟨sg,so,none⟩) n.switches.length sc,.slice oa n.orders.length oc,.slice ba n.backs.length bc,.slice pa n.packets.length pc,.slice pl n.plans.length lc2] 50)).alloc (.cells #[.int .i64 0,.int .i64 0] 29))=w8 at *
  generalize w7.heap.size=xb at *
  clear lp0 lp1 lp2 lq0 lq1 lq2
  obtain ⟨x1,x2⟩:=hW.cells
  obtain ⟨f1,f2⟩:=hG.cells
  have hwl:=hW.lt
  have hgl:=hG.lt
  go_wp2
  go_ret;exact ⟨rfl,hB8⟩
end Go.Proofs.YtampcbncgofkoaaGreatDoor
