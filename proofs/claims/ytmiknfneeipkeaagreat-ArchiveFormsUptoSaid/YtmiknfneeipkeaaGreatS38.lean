/- Contracts of the walk, part 38. -/
import Derived.Test.YtmiknfneeipkeaaGreatS37
import Derived.Test.YtmiknfneeipkeaaGreatS36
import Derived.Test.YtmiknfneeipkeaaGreatS31
open Go.Lib (hid)
namespace Go.Proofs.YtmiknfneeipkeaaGreat
open Go.RowKit Go.MapKept Go.ChangeMaps Go.Shelf Go.Sort
attribute [local go_sem] wext_cell
theorem not_vol {bs:List UInt8} (h:opnV bs=none):¬ VolOk bs:=fun ⟨_,_,_,h1,_⟩=>by rw [h] at h1;cases h1
theorem opn_none {bs:List UInt8} (h:rdMans bs=none):opnV bs=none:=by rw [opnV,h]
theorem frP_small {bs:List UInt8} {k:Nat} {last:Option ID} {c:PC} {j:Nat} (h:frP bs k last=some (c,j)):c.2.length<=8192:=by
 rw [frP] at h;split at h
 · cases h
 split at h
 · cases h
 split at h
 · cases h
 rename_i hb
 split at h
 · cases h
 split at h
 · cases h
 injection h with h;injection h with h3 h4;rw [<- h3];simp only [List.length_take];omega
theorem frsP_small {bs:List UInt8}:∀ (f k:Nat) (acc l:List PC) (j:Nat),frsP bs f k acc=some (l,j)->(∀ c∈acc,c.2.length<=8192)->∀ c∈l,c.2.length<=8192:=by
 intro f;induction f with
 | zero=>intro k acc l j h;cases h
 | succ f ih=>
  intro k acc l j h ha;rw [frsP] at h;split at h
  · cases h
  split at h
  · injection h with h;injection h with h1 h2;rw [<- h1];exact ha
  split at h
  · split at h
    · rename_i c j1 hfr
      refine ih _ _ _ _ h (fun x hx=>?_);rcases List.mem_append.1 hx with hx | hx
      · exact ha x hx
      rw [List.mem_singleton.1 hx];exact frP_small hfr
    cases h
  cases h
theorem decP_small {bs:List UInt8} {S:List CH} (h:decP bs=some (pcs S)):∀ e∈S,e.2.bs.length<=8192:=fun e he=>by
 rw [decP] at h;split at h
 · cases h
 split at h
 · split at h
   · rename_i l k hfr
     split at h
     · injection h with h;subst h;exact frsP_small _ _ _ _ _ hfr (fun c hc=>by cases hc) _ (List.mem_map.2 ⟨e,he,rfl⟩)
     cases h
   cases h
 cases h
theorem decM_nil:decM []=none:=by
 cases h:decM [] with
 | none=>rfl
 | some m=>have:=decM_len h;simp at this
theorem decP_nil:decP []=none:=by
 rw [decP,if_neg (by simp),if_neg];intro h;have:=h.length_le;have e:packM.length=4:=rfl;rw [e] at this;simp at this
section
variable {b:Nat} {w0 w w':World} {l:List Ob}
theorem sub_view (h:SW b w0 l w) {g o c:Nat} {bs:List UInt8} (hr:rsOb (some ⟨g,o,none⟩) bs∈l) (k z:Nat) (hk:k+z<=bs.length):SW b w0 (rsOb (some ⟨g,o+k,none⟩) ((bs.drop k).take z)::l) w:=by
 refine rs_sub h hr ((h.1.holds _ hr:RS w _ bs).sub k z hk) (fun i hi=>?_);obtain ⟨hp,o',e⟩:=hi;rw [List.length_take,List.length_drop] at hp;injection e with e;injection e with e1 e2;subst e1;exact ⟨by omega,o,rfl⟩
theorem sub_nil (h:SW b w0 l w) (g o:Nat):SW b w0 (rsOb (some ⟨g,o,none⟩) []::l) w:=
 SW.fuse (pre:=[]) h ⟨fun e=>(by cases e),fun _ _ hp=>absurd hp (Nat.lt_irrefl 0)⟩ (fun _ h=>h) (fun i hi=>by
  obtain ⟨hp,_⟩:=hi;exact absurd hp (Nat.lt_irrefl 0))
abbrev RopP (bs:List UInt8) (b:Nat) (w0:World) (l:List Ob) (e:Ending) (w':World):Prop:=
 (∃ (ms:List Man) (rs:List MR) (S:List CH) (D C:Option Addr) (d dc:Nat),VolOk bs/\opnV bs=some (ms,pcs S)/\(∀ x∈S,okID x.1)/\S.length<=bs.length/\e= .returned (.tuple #[.slice D ms.length d,.slice C S.length dc,.int .i64 0])/\SW b w0 (imOb D rs ms::cxOb C S::l) w')∨
 (¬ VolOk bs/\e= .returned (.tuple #[.slice none 0 0,.slice none 0 0,.int .i64 412])/\SW b w0 l w')
set_option maxRecDepth 100000 in
set_option maxHeartbeats 16000000 in
theorem rOpen_any (h:SW b w0 l w) {A:Option Addr} {c:Nat} {bs:List UInt8} (hr:rsOb A bs∈l) (hv:(A=none->c=0)/\bs.length<=c/\bs.length<=9223372036854775807) (hbl:bs.length<=1000000000) (hS:∀ ms k,rdMans bs=some (ms,k)->ms.length<=600000) (hP:∀ ms S,opnV bs=some (ms,pcs S)->AllR (setR (idsOf ms)) S->(packP (selR (setR (idsOf ms)) S)).length<=1048576):
 Calls Tryz.prog 62 #[.slice A bs.length c] w (RopP bs b w0 l):=by
 have S0:=hid h;have HR:=hid hr;have HVV:=hid hv;have HS:=hid hS;have HP:=hid hP;clear h hr hv hS hP;by_cases hp:volMk <+: bs
 · have HPM:=hid hp;have h4:4<=bs.length:=hp.length_le;have hd1:decide ((bs.length:Int)<4)=false:=decide_eq_false (by omega);have hd2:decide (bs.length<4)=false:=decide_eq_false (by omega);have h4c:4<=c:=by have:=HVV.out.2.1;omega
   have HV4:=hid ((S0.out.view HR.out HVV.out).take 4 h4);have HCV:=hid (conv_str (HV4.out.1.sb) 4 c (by rw [List.length_take];omega));have hcv:(convert 40 9 (.slice A 4 c)).run Tryz.prog w= .ok (.string ⟨(bs.take 4).toArray⟩) w:=HCV.out;have hpre:(List.take 4 bs==[83,89,65,82])=true:=by rw [show ([83,89,65,82]:List UInt8)=volMk from rfl,pre_four volMk bs rfl,decide_eq_true hp]
   have hpre2:(List.take 4 bs !=[83,89,65,82])=false:=by rw [bne,hpre];rfl
   have HT:Hid (Calls Tryz.prog 116 #[.slice A bs.length c,.int .i64 4] w (UintP bs 4 w)):=rTake_any A c bs 4 w (S0.out.view HR.out HVV.out) h4
   obtain ⟨g,o,HAo⟩:∃ g o,A=some ⟨g,o,none⟩:=by
    cases A with
    | none=>
     have h1:=(S0.out.view HR.out HVV.out).1.1 rfl;omega
    | some ad=>
     obtain ⟨g,o,rfl,_⟩:=(S0.out.view HR.out HVV.out).1.2 ad rfl (by omega);exact ⟨g,o,rfl⟩
   subst HAo;clear hp HV4 HCV;go_enter Tryz.func62,Tryz.ntmps62;go_wp2_with (go_at_call 116;(with_reducible refine HT.out.mono ?_);refine halt_ ?_)
   rintro e w1 ⟨rfl,⟨v,n,ht,rfl⟩ | ⟨ht,q,hq,rfl⟩⟩
   · have hnl:=takeU_le _ _ _ _ _ ht;rw [List.length_drop] at hnl;have hv64:=takeU_lt _ _ _ _ _ (by omega) (by decide) ht;obtain ⟨k0,HK0⟩:∃ x,Hid (4+n=x):=⟨_,rfl⟩;have HRM:Hid (rdMans bs=mansL bs v k0):=by rw [Hid,rdMans,if_pos HPM.out,ht];simp only;rw [HK0.out]
     have hk0:k0<=bs.length:=by have:=HK0.out;omega
     rw [HK0.out];clear hnl ht HT hpre hpre2 hcv hd1 hd2 HPM HK0;by_cases hvl:bs.length<v
     · have hd3:decide ((bs.length:Int)<(v:Int))=true:=decide_eq_true (by omega);have hd4:decide (bs.length<v)=true:=decide_eq_true hvl
       have HN:Hid (opnV bs=none):=by
        refine opn_none ?_;cases hm:rdMans bs with
        | none=>rfl
        | some p=>
         obtain ⟨ms,k⟩:=p;have h1:=rdMans_len hm;rw [HRM.out] at hm;have h2:=mansL_len _ _ _ _ hk0 hm;omega
       clear hvl;go_wp2_with fail
       go_ret3
       exact .inr ⟨not_vol HN.out,rfl,S0.out⟩
     have hd3:decide ((bs.length:Int)<(v:Int))=false:=decide_eq_false (by omega);have hd4:decide (bs.length<v)=false:=decide_eq_false hvl;have S1:=hid ((SW.noMans S0.out).newRow 33 2);clear S0;go_wp2_with fail
     obtain ⟨im,mi,mz0,mz1,mz2⟩:=info_parts info33';clear hd3 hd4;go_loopw [6,8,9] (fun s6 s8 s9 wr=>∃ (i k:Nat) (ms:List Man) (rs:List MR) (D:Option Addr) (dc:Nat),i<=v/\s9= .int .u64 (i:Int)/\s6= .int .i64 (k:Int)/\s8= .slice D ms.length dc/\k<=bs.length/\ms.length<=k/\Hid (mansL bs v k0=(mansL bs (v-i) k).map (fun p=>(ms++p.1,p.2)))/\SW b w0 (rowOb 33 2 (.slice D ms.length dc) ms.length (rs.flatMap encMR)::msOb rs ms::l) wr) (fun _ _ s9 _=>v-(intOf s9).toNat)
     case atStart=>exact ⟨0,k0,[],[],none,0,Nat.zero_le _,rfl,rfl,rfl,hk0,Nat.zero_le _,by rw [Hid];simp,S1.out⟩
     obtain ⟨i,k,ms,rs,D,dc,hi,rfl,rfl,rfl,hk,hmk,HML,hs⟩:=hrel;have S2:=hid hs;clear hs S1;by_cases hlt:i<v
     · have HST:Hid (rdMans bs=((match oneM (bs.drop k) with
        | some (m,j)=>(mansL bs (v-(i+1)) (k+j)).map (fun (p:List Man×Nat)=>(m::p.1,p.2))
        | none=>none):Option (List Man×Nat)).map (fun (p:List Man×Nat)=>(ms++p.1,p.2))):=by
        rw [Hid,HRM.out,HML.out,show v-i=(v-(i+1))+1 by omega,mansL];rfl
       have HT:=hid (rTake_any _ c bs k wr (S2.out.view (.tail _ (.tail _ HR.out)) HVV.out) hk);rename World=>wa;go_wp2_with (go_at_call 116;(with_reducible refine HT.out.mono ?_);refine halt_ ?_)
       rintro e w2 ⟨rfl,⟨sz,n1,ht,rfl⟩ | ⟨ht,q,hq,rfl⟩⟩
       · have hnl:=takeU_le _ _ _ _ _ ht;rw [List.length_drop] at hnl;have hs64:=takeU_lt _ _ _ _ _ (by omega) (by decide) ht;obtain ⟨k1,HK1⟩:∃ x,Hid (k+n1=x):=⟨_,rfl⟩;have hk1:k1<=bs.length:=by have:=HK1.out;omega
         have hkk:k<k1:=by have:=HK1.out;omega
         obtain ⟨R,HRR⟩:∃ R:Nat,Hid (bs.length=k1+R):=⟨bs.length-k1,by rw [Hid];omega⟩;have hRb:R<=1000000000:=by have:=HRR.out;omega
         have HO1:Hid (oneM (bs.drop k)=if R<sz then none else (decM ((bs.drop k1).take sz)).map (fun m=>(m,n1+sz))):=by
          rw [Hid,oneM,ht];simp only;rw [List.drop_drop,HK1.out,List.length_drop,show bs.length-k1=R by have:=HRR.out;omega]
         have hRi:(bs.length:Int)-(k1:Int)=(R:Int):=by have:=HRR.out;omega
         rw [HK1.out];clear hnl ht HT;by_cases hsz:R<sz
         · have hd3:decide ((R:Int)<(sz:Int))=true:=decide_eq_true (by omega);have hd4:decide (R<sz)=true:=decide_eq_true hsz;have HN:Hid (opnV bs=none):=opn_none (by rw [HST.out,HO1.out,if_pos hsz];rfl);clear hsz;go_wp2_with fail
           go_ret3
           exact .inr ⟨not_vol HN.out,rfl,S2.out.tail.tail⟩
         have hd3:decide ((R:Int)<(sz:Int))=false:=decide_eq_false (by omega);have hd4:decide (R<sz)=false:=decide_eq_false hsz;have HO2:Hid (oneM (bs.drop k)=(decM ((bs.drop k1).take sz)).map (fun m=>(m,n1+sz))):=by rw [Hid,HO1.out,if_neg hsz]
         have hszR:sz<=R:=by omega
         have hfit:k1+sz<=bs.length:=by have:=HRR.out;omega
         have hbc:bs.length<=c:=HVV.out.2.1;clear HO1 hsz;by_cases hck:c=k1
         · have hsz0:sz=0:=by omega
           subst hsz0;have hct:(c=k1)=True:=eq_true hck;have HN:Hid (opnV bs=none):=opn_none (by rw [HST.out,HO2.out,List.take_zero,decM_nil];rfl);have S3:=hid (sub_nil S2.out g o)
           have HDE:Hid (Calls Tryz.prog 117 #[.slice (some ⟨g,o,none⟩) 0 (c-k1)] w2 (DecP [] b w0 (rsOb (some ⟨g,o,none⟩) []::rowOb 33 2 (.slice D ms.length dc) ms.length (rs.flatMap encMR)::msOb rs ms::l))):=
            rManDec_any S3.out (.head _) (c:=c-k1) ⟨(fun e=>by cases e),Nat.zero_le _,Nat.zero_le _⟩
           clear S2 S3 hck hd3 hd4;have hd3:decide ((R:Int)<0)=false:=decide_eq_false (by omega);simp only [Int.natCast_zero];go_wp2_with (go_at_call 117;(with_reducible refine HDE.out.mono ?_);refine halt_ ?_)
           rintro e w3 (⟨m,D1,d1,hd,rfl,t3⟩ | ⟨hd,rfl,t3⟩)
           · rw [decM_nil] at hd;cases hd
           have S6:=hid (t3.newCell 33 #[.int .i64 0,.slice none 0 0]);clear hd t3 HDE;go_wp2_with fail
           go_ret3
           exact .inr ⟨not_vol HN.out,rfl,S6.out.tail.tail.tail.tail⟩
         have hckn:¬ c=k1:=hck;have S3:=hid (sub_view (c:=c) S2.out (.tail _ (.tail _ HR.out)) k1 sz hfit);have HTL:Hid (((bs.drop k1).take sz).length=sz):=by rw [Hid,List.length_take,List.length_drop];omega
         have HDE:Hid (Calls Tryz.prog 117 #[.slice (some ⟨g,o+k1,none⟩) sz (c-k1)] w2 (DecP ((bs.drop k1).take sz) b w0 (rsOb (some ⟨g,o+k1,none⟩) ((bs.drop k1).take sz)::rowOb 33 2 (.slice D ms.length dc) ms.length (rs.flatMap encMR)::msOb rs ms::l))):=by
          have h1:=rManDec_any S3.out (.head _) (c:=c-k1) ⟨(fun e=>by cases e),by rw [HTL.out];omega,by rw [HTL.out];omega⟩;rw [HTL.out] at h1;exact h1
         clear S2 S3;have hw:IntKind.i64.wrap (sz:Int)=(sz:Int):=IntWalk.i64_in _ (by omega);go_wp2_with (go_at_call 117;(with_reducible refine HDE.out.mono ?_);refine halt_ ?_)
         rintro e w3 (⟨m,D1,d1,hd,rfl,t3⟩ | ⟨hd,rfl,t3⟩)
         · have HON:Hid (oneM (bs.drop k)=some (m,n1+sz)):=by rw [Hid,HO2.out,hd];rfl
           have S6:=hid (t3.newCell 33 #[.int .i64 m.size,.slice D1 m.ids.length d1]);clear hd t3 HDE;go_upto_region 17 with fail
           obtain ⟨w4,HW⟩:∃ W,Hid (w3.alloc (.cells #[.int .i64 m.size,.slice D1 m.ids.length d1] 33)=W):=⟨_,rfl⟩;obtain ⟨gm,HGM⟩:∃ x,Hid (w3.heap.size=x):=⟨_,rfl⟩;rw [HW.out,HGM.out] at S6;rw [HW.out,HGM.out];clear HW HGM;have m0:=(S6.out.cell 0 rfl).cell 0;have m1:=(S6.out.cell 0 rfl).cell 1;have S8:=hid (S6.out.newCell 33 #[.int .i64 m.size,.slice D1 m.ids.length d1]);go_wp2_with (at_builtin;(refine wpList_rowS (t:=27) (e:=33) (size:=2) (bytes:=32) (i:=im) S8.out 4 rfl (by rfl) (.tmp 80) (.tmp 82) (by rfl) Tryz.underlying27 mi mz0 mz1 mz2 rfl (by omega) (by rfl) ⟨w4.heap.size,0,none⟩ 1 [.int .i64 m.size,.slice D1 m.ids.length d1] (by rfl) rfl (fun j u hu=>by rw [lit_add,Nat.zero_add,(S8.out.cell 0 rfl).cell, <- Array.getElem?_toList];exact hu) (fun u hu=>by simp only [List.mem_cons,List.not_mem_nil,or_false] at hu;rcases hu with rfl | rfl<;>rfl) (by unfold maxLen;omega) (by omega) ?_);refine halt_ ?_)
           intro v9 w9 s9;obtain ⟨g9,c9,rfl⟩:=own_some (s9.get 4 rfl) (by omega);have S9:=hid s9;clear s9 S6 S8 m0 m1
           have HRI:Hid (SW b w0 (rowOb 33 2 (.slice (some ⟨g9,0,none⟩) (ms++[m]).length c9) (ms++[m]).length ((rs++[(⟨m.size,D1,m.ids.length,d1⟩:MR)]).flatMap encMR)::msOb (rs++[⟨m.size,D1,m.ids.length,d1⟩]) (ms++[m])::l) w9):=by
            have hl1:m.ids.length<=d1:=row_cap (S9.out.get 2 (o:=rowOb 36 2 (.slice D1 m.ids.length d1) m.ids.length (m.ids.flatMap encID)) rfl);have h1:=SW.rowRi (SW.few (pre:=[_,_,_,_,_,_]) S9.out [2,5,4] (n:=6) rfl (by decide) (by decide));have h2:=SW.fuseM (z:=m.size) (c:=d1) h1 hl1;have h3:=SW.front (pre:=[_,_]) h2 [1,0] (n:=2) rfl (by decide);rw [Hid,List.length_append,List.flatMap_append];exact h3
           have HML2:Hid (mansL bs v k0=(mansL bs (v-(i+1)) (k1+sz)).map (fun p=>((ms++[m])++p.1,p.2))):=by
            have h1:=HST.out;rw [HRM.out,HON.out] at h1;rw [Hid,h1, <- HK1.out,Nat.add_assoc];simp [Function.comp_def]
           have HLN:Hid (ms.length+1=(ms++[m]).length):=by rw [Hid,List.length_append];rfl
           obtain ⟨k2,HK2⟩:∃ x,Hid (k1+sz=x):=⟨_,rfl⟩;have hk2:k2<=bs.length:=by rw [<- HK2.out];exact hfit
           have hk2b:k1<=k2:=by have:=HK2.out;omega
           rw [HK2.out] at HML2;have HKI:Hid ((k1:Int)+(sz:Int)=(k2:Int)):=by have:=HK2.out;rw [Hid];omega
           clear S9 HON hRi;go_wp2_with fail
           rw [HKI.out];go_roundw
           case rel=>exact ⟨i+1,k2,ms++[m],rs++[⟨m.size,D1,m.ids.length,d1⟩],some ⟨g9,0,none⟩,c9,by omega,by go_num,(by rfl),(by rw [<- HLN.out]),hk2,by rw [<- HLN.out];omega,HML2.out,HRI.out⟩
           simp [intOf];omega
         have HN:Hid (opnV bs=none):=opn_none (by rw [HST.out,HO2.out,hd];rfl);have S6:=hid (t3.newCell 33 #[.int .i64 0,.slice none 0 0]);clear hd t3 HDE;go_wp2_with fail
         go_ret3
         exact .inr ⟨not_vol HN.out,rfl,S6.out.tail.tail.tail.tail⟩
       have hqn:(q !=0)=true:=by rw [bne_iff_ne];exact hq
       have HN:Hid (opnV bs=none):=opn_none (by rw [HST.out,oneM,ht];rfl);clear ht hq HT;go_wp2_with fail
       go_ret3
       exact .inr ⟨not_vol HN.out,rfl,S2.out.tail.tail⟩
     obtain rfl:i=v:=by omega
     have HRE:Hid (rdMans bs=some (ms,k)):=by
      rw [Hid,HRM.out,HML.out,Nat.sub_self,mansL];simp
     have hlen:=HS.out ms k HRE.out;have S3:=hid (SW.fuseIm S2.out);have hbc:bs.length<=c:=HVV.out.2.1;clear S2 HML;by_cases hkl:k<bs.length
     · have hckn:¬ c=k:=by omega
       have S4:=hid (sub_view (c:=c) S3.out (.tail _ HR.out) k (bs.length-k) (by omega));obtain ⟨r1,HR1⟩:∃ x,Hid (bs.drop k=x):=⟨_,rfl⟩;have HRL:Hid (r1.length=bs.length-k):=by rw [Hid, <- HR1.out,List.length_drop]
       rw [HR1.out,List.take_of_length_le (by rw [HRL.out];exact Nat.le_refl _)] at S4
       have HPD:Hid (Calls Tryz.prog 118 #[.slice (some ⟨g,o+k,none⟩) (bs.length-k) (c-k)] wr (DecPP r1 b w0 (rsOb (some ⟨g,o+k,none⟩) r1::imOb D rs ms::l))):=by
        have h1:=rPackDec_any S4.out (.head _) (c:=c-k) ⟨(fun e=>by cases e),by rw [HRL.out];omega,by rw [HRL.out];omega⟩;rw [HRL.out] at h1;exact h1
       clear S3 S4;go_wp2_with (go_at_call 118;(with_reducible refine HPD.out.mono ?_);refine halt_ ?_)
       rintro e w2 (⟨S,C,d2,hde,hok,hSl,rfl,t2⟩ | ⟨hde,⟨v0,q,hq,rfl⟩,t2⟩)
       · have HO:Hid (opnV bs=some (ms,pcs S)):=by
          rw [Hid,opnV,HRE.out];simp only;rw [HR1.out,hde];rfl
         have HOK:=hid hok;have hsm:=decP_small hde;have hrl:r1.length<=bs.length:=by rw [HRL.out];omega
         have S5:=hid (SW.fuseCx t2);have hman:=rdMans_ok HRE.out;have HMN:=hid hman;have HST:=hid (rStore_any S5.out (A:=D) (rs:=rs) (ms:=ms) (.tail _ (.tail _ (.head _))) hlen (fun m hm=>by have:=manE_len (hman m hm).1;omega) (fun m hm=>(hman m hm).2) (C:=C) (T:=S) (.head _) (fun e he=>by have:=hsm e he;omega) (by omega) (HP.out ms S HO.out) dc d2);clear hde hok t2 HPD hman hsm;go_wp2_with (go_at_call 12;(with_reducible refine HST.out.mono ?_);refine halt_ ?_)
         rintro e w3 (⟨he,rfl,t3⟩ | ⟨he,hno,rfl,t3⟩ | ⟨he,h1m,hall,ys,d3,hcon,rfl,t3⟩)
         · exact absurd (errM_all (fun m hm=>(HMN.out m hm).1)) he
         · have HN:Hid (¬ VolOk bs):=fun ⟨ms',ys',S',h1,h2,h3,h4,h5⟩=>by
            have e1:=h1;rw [HO.out] at e1;injection e1 with e1;injection e1 with e1 e2;subst e1;exact hno ⟨h2,pcs_all e2.symm h4⟩
           have S4:=hid t3;clear he hno t3 HST S5;go_wp2_with fail
           go_ret3
           exact .inr ⟨HN.out,rfl,S4.out.tail.tail.tail⟩
         have HOM:=hid h1m;have HAL:=hid hall;have HCO:=hid hcon;have S4:=hid t3;obtain ⟨vb,HVB⟩:∃ x,Hid (volB ys (selR (setR (idsOf ms)) S)=x):=⟨_,rfl⟩;rw [HVB.out] at S4;have hrb:RB w3 d3 vb:=S4.out.get 0 (o:=bufOb d3 vb) rfl;have HC1:=hid (conv_str hrb.src d3.len d3.cap hrb.1);have hcv1:(convert 40 9 (.slice d3.A d3.len d3.cap)).run Tryz.prog w3= .ok (.string ⟨vb.toArray⟩) w3:=HC1.out;have HC2:=hid (conv_str ((S4.out.view (.tail _ (.tail _ (.tail _ (.tail _ HR.out)))) HVV.out).1.sb) bs.length c rfl);have hcv2:(convert 40 9 (.slice (some ⟨g,o,none⟩) bs.length c)).run Tryz.prog w3= .ok (.string ⟨bs.toArray⟩) w3:=HC2.out;clear he h1m hall hcon t3 HST S5 hrb HC1 HC2;unfold vB;by_cases heq:vb=bs
         · have HVO:Hid (VolOk bs):=⟨ms,ys,S,HO.out,HOM.out,HCO.out,HAL.out,by rw [HVB.out];exact heq⟩;have hq1:(vb !=bs)=false:=by rw [bne_eq_false_iff_eq];exact heq
           have hq2:(vb==bs)=true:=by rw [beq_iff_eq];exact heq
           clear heq;go_wp2_with fail
           go_ret3
           exact .inl ⟨ms,rs,S,D,C,dc,d2,HVO.out,HO.out,HOK.out,by omega,rfl,SW.few (pre:=[_,_,_,_]) S4.out [3,1] (n:=4) rfl (by decide) (by decide)⟩
         have HN:Hid (¬ VolOk bs):=fun h=>heq (by rw [<- HVB.out];exact (volOk_at h HO.out HCO.out).2.2);have hq1:(vb !=bs)=true:=by rw [bne_iff_ne];exact heq
         have hq2:(vb==bs)=false:=by rw [beq_eq_false_iff_ne];exact heq
         clear heq;go_wp2_with fail
         go_ret3
         exact .inr ⟨HN.out,rfl,S4.out.tail.tail.tail.tail⟩
       have HN:Hid (opnV bs=none):=by
        rw [Hid,opnV,HRE.out];simp only;rw [HR1.out,hde];rfl
       have hqn:(q !=0)=true:=by rw [bne_iff_ne];exact hq
       have S3:=hid t2;clear hde hq t2 HPD;go_wp2_with fail
       go_ret3
       exact .inr ⟨not_vol HN.out,rfl,S3.out.tail.tail⟩
     obtain rfl:k=bs.length:=by omega
     have HN:Hid (opnV bs=none):=by
      rw [Hid,opnV,HRE.out];simp only;rw [List.drop_length,decP_nil];rfl
     have hz:bs.length-bs.length=0:=Nat.sub_self _;by_cases hck:c=bs.length
     · have hct:(c=bs.length)=True:=eq_true hck;have S4:=hid (sub_nil S3.out g o);have HPD:Hid (Calls Tryz.prog 118 #[.slice (some ⟨g,o,none⟩) 0 (c-bs.length)] wr (DecPP [] b w0 (rsOb (some ⟨g,o,none⟩) []::imOb D rs ms::l))):=rPackDec_any S4.out (.head _) (c:=c-bs.length) ⟨(fun e=>by cases e),Nat.zero_le _,Nat.zero_le _⟩;clear S3 S4 hck hbc;go_wp2_with (go_at_call 118;(with_reducible refine HPD.out.mono ?_);refine halt_ ?_)
       rintro e w2 (⟨S,C,d2,hde,_⟩ | ⟨hde,⟨v0,q,hq,rfl⟩,t2⟩)
       · rw [decP_nil] at hde;cases hde
       have hqn:(q !=0)=true:=by rw [bne_iff_ne];exact hq
       have S3:=hid t2;clear hde hq t2 HPD;go_wp2_with fail
       go_ret3
       exact .inr ⟨not_vol HN.out,rfl,S3.out.tail.tail⟩
     have S4:=hid (sub_nil S3.out g (o+bs.length));have HPD:Hid (Calls Tryz.prog 118 #[.slice (some ⟨g,o+bs.length,none⟩) 0 (c-bs.length)] wr (DecPP [] b w0 (rsOb (some ⟨g,o+bs.length,none⟩) []::imOb D rs ms::l))):=rPackDec_any S4.out (.head _) (c:=c-bs.length) ⟨(fun e=>by cases e),Nat.zero_le _,Nat.zero_le _⟩;clear S3 S4;go_wp2_with (go_at_call 118;(with_reducible refine HPD.out.mono ?_);refine halt_ ?_)
     rintro e w2 (⟨S,C,d2,hde,_⟩ | ⟨hde,⟨v0,q,hq,rfl⟩,t2⟩)
     · rw [decP_nil] at hde;cases hde
     have hqn:(q !=0)=true:=by rw [bne_iff_ne];exact hq
     have S3:=hid t2;clear hde hq t2 HPD;go_wp2_with fail
     go_ret3
     exact .inr ⟨not_vol HN.out,rfl,S3.out.tail.tail⟩
   have hqn:(q !=0)=true:=by rw [bne_iff_ne];exact hq
   have HN:Hid (opnV bs=none):=opn_none (by rw [rdMans,if_pos HPM.out,ht]);clear ht hq HT;go_wp2_with fail
   go_ret3
   exact .inr ⟨not_vol HN.out,rfl,S0.out⟩
 have HN:Hid (opnV bs=none):=opn_none (by rw [rdMans,if_neg hp]);by_cases hl4:bs.length<4
 · have hd1:decide ((bs.length:Int)<4)=true:=decide_eq_true (by omega);have hd2:decide (bs.length<4)=true:=decide_eq_true hl4;clear hp hl4;go_enter Tryz.func62,Tryz.ntmps62;go_wp2_with fail
   go_ret3
   exact .inr ⟨not_vol HN.out,rfl,S0.out⟩
 have hd1:decide ((bs.length:Int)<4)=false:=decide_eq_false (by omega);have hd2:decide (bs.length<4)=false:=decide_eq_false hl4;have h4c:4<=c:=by have:=HVV.out.2.1;omega
 have HV4:=hid ((S0.out.view HR.out HVV.out).take 4 (by omega));have HCV:=hid (conv_str (HV4.out.1.sb) 4 c (by rw [List.length_take];omega));have hcv:(convert 40 9 (.slice A 4 c)).run Tryz.prog w= .ok (.string ⟨(bs.take 4).toArray⟩) w:=HCV.out;have hpre:(List.take 4 bs==[83,89,65,82])=false:=by rw [show ([83,89,65,82]:List UInt8)=volMk from rfl,pre_four volMk bs rfl,decide_eq_false hp]
 have hpre2:(List.take 4 bs !=[83,89,65,82])=true:=by rw [bne,hpre];rfl
 clear hp HV4 HCV;go_enter Tryz.func62,Tryz.ntmps62;go_wp2_with fail
 go_ret3
 exact .inr ⟨not_vol HN.out,rfl,S0.out⟩
end
end Go.Proofs.YtmiknfneeipkeaaGreat
namespace Go.Proofs.YtmiknfneeipkeaaGreat
open Go.RowKit Go.MapKept Go.ChangeMaps Go.Shelf Go.Sort
attribute [local go_sem] wext_cell
section
variable {b:Nat} {w0 w w':World} {l:List Ob}
set_option maxRecDepth 100000 in
set_option maxHeartbeats 8000000 in
theorem rMissing_any (h:SW b w0 l w) {m:Man} {A:Option Addr} {c:Nat} (hrd:∀ W l',SW b w0 l' W->(∀ o∈l,o∈l')->RdID W W.heap.size A m.ids) (he:manE m=0):
 Calls Tryz.prog 69 #[.agg #[.int .i64 m.size,.slice A m.ids.length c],.slice none 0 0] w (MisP m b w0 l):=by
 have HRD:=hid hrd;have hml:=manE_len he;obtain ⟨ii,gi,gz0,gz1,gz2⟩:=info_parts info36;have S0:=hid (h.newCellAt 33 #[.int .i64 m.size,.slice A m.ids.length c] (H:=w.heap.size) rfl);have HC:=hid (rmanCheck_any _ m A c _ (HRD.out _ _ S0.out (fun o ho=> .tail _ ho)) (by omega));rw [he] at HC;clear h hrd he;go_enter Tryz.func69,Tryz.ntmps69;go_upto_region 1 with fail
 obtain ⟨gm,HGM⟩:∃ x,Hid (w.heap.size=x):=⟨_,rfl⟩;obtain ⟨w1,HW⟩:∃ W,Hid (w.alloc (.cells #[.int .i64 m.size,.slice A m.ids.length c] 33)=W):=⟨_,rfl⟩;rw [HGM.out,HW.out] at S0;rw [HGM.out,HW.out];rw [HW.out] at HC;clear HGM HW;have e0:=(S0.out.cell 0 rfl).cell 0;have e1:=(S0.out.cell 0 rfl).cell 1;go_wp2_with (go_at_call 37;(with_reducible refine HC.out.mono ?_);refine halt_ ?_)
 rintro e w2 ⟨rfl,hb2⟩;have S1:=hid (S0.out.on hb2);have S2:Hid (SW b w0 (cellOb gm 33 #[.int .i64 m.size,.slice A m.ids.length c]::rowOb 36 2 (.slice none 0 0) 0 []::l) w2):=SW.front (pre:=[_,_]) (S1.out.newRow 36 2) [1,0] (n:=2) rfl (by decide);clear hb2 S0 HC e0 e1 S1;go_wp2_with fail
 go_loopw [7,8] (fun s7 s8 wr=>∃ (k:Nat) (B:Option Addr) (bc:Nat),k<=m.ids.length/\s8= .int .i64 (k:Int)/\s7= .slice B (firsts (m.ids.take k)).length bc/\SW b w0 (cellOb gm 33 #[.int .i64 m.size,.slice A m.ids.length c]::rowOb 36 2 (.slice B (firsts (m.ids.take k)).length bc) (firsts (m.ids.take k)).length ((firsts (m.ids.take k)).flatMap encID)::l) wr) (fun _ s8 _=>m.ids.length-(intOf s8).toNat)
 case atStart=>exact ⟨0,none,0,Nat.zero_le _,rfl,rfl,S2.out⟩
 obtain ⟨k,B,bc,hk,rfl,rfl,hs⟩:=hrel;have S4:=hid hs;clear hs S2;have e0:=(S4.out.cell 0 rfl).cell 0;have e1:=(S4.out.cell 0 rfl).cell 1;have hfl:=firsts_len (m.ids.take k);rw [List.length_take] at hfl;obtain ⟨F,HF⟩:∃ F,Hid (firsts (m.ids.take k)=F):=⟨_,rfl⟩;rw [HF.out] at S4 hfl;rw [HF.out];by_cases hlt:k<m.ids.length
 · obtain ⟨j1,j2,HI⟩:∃ i1 i2,Hid (m.ids.getD k id0=(i1,i2)):=⟨_,_,rfl⟩;have HTK:Hid (firsts (m.ids.take (k+1))=addF F (j1,j2)):=by rw [Hid,take_id hlt,HI.out,firsts_snoc,HF.out]
   have hrA:=HRD.out _ _ S4.out (fun o ho=> .tail _ (.tail _ ho));obtain ⟨gb,o,rfl,hB,hne,hc⟩:=hrA (by omega);have d0:wr.cell? ⟨gb,o+k*2,none⟩=some (.int .u64 j1):=hc k hlt 0 _ (by rw [show m.ids.getD k (0,0)=(j1,j2) from HI.out];rfl);have d1:wr.cell? ⟨gb,o+k*2+1,none⟩=some (.int .i64 j2):=hc k hlt 1 _ (by rw [show m.ids.getD k (0,0)=(j1,j2) from HI.out];rfl);clear hc hrA
   have HH1:Hid (Calls Tryz.prog 34 #[.slice none 0 0,.agg #[.int .u64 j1,.int .i64 j2]] wr (Gives (.bool false) wr)):=by
    have h1:=rHas_any wr.heap.size [] none 0 j1 j2 wr (fun hp=>absurd hp (Nat.lt_irrefl 0)) (Nat.zero_le _);rw [decide_eq_false (by simp)] at h1;exact h1
   go_wp2_with (go_at_call 34;(with_reducible refine HH1.out.mono ?_);refine halt_ ?_)
   rintro e w3 ⟨rfl,hb3⟩;have S5:=hid (S4.out.on hb3);clear hb3 S4 e0 e1 d0 d1 HH1;have e0:=(S5.out.cell 0 rfl).cell 0;have e1:=(S5.out.cell 0 rfl).cell 1;have hrA:=HRD.out _ _ S5.out (fun o ho=> .tail _ (.tail _ ho));obtain ⟨gb',o',e7,hB',hne',hc⟩:=hrA (by omega);injection e7 with e7;injection e7 with e7 e8;subst e7;subst e8;have d0:w3.cell? ⟨gb,o+k*2,none⟩=some (.int .u64 j1):=hc k hlt 0 _ (by rw [show m.ids.getD k (0,0)=(j1,j2) from HI.out];rfl);have d1:w3.cell? ⟨gb,o+k*2+1,none⟩=some (.int .i64 j2):=hc k hlt 1 _ (by rw [show m.ids.getD k (0,0)=(j1,j2) from HI.out];rfl);clear hc hrA;obtain ⟨v,hv⟩:∃ v,decide ((j1,j2)∈F)=v:=⟨_,rfl⟩;have HH2:=hid (rHas_any _ F B bc j1 j2 w3 (row_rdI (S5.out.get 1 rfl) rfl) (by omega));rw [hv] at HH2;have HVV:=hid hv;clear hv;go_wp2_with (go_at_call 34;(with_reducible refine HH2.out.mono ?_);refine halt_ ?_)
   rintro e w4 ⟨rfl,hb4⟩;have S6:=hid (S5.out.on hb4);clear hb4 S5 e0 e1 d0 d1 HH2;cases v with
   | true=>
    have HNX:Hid (firsts (m.ids.take (k+1))=F):=by rw [Hid,HTK.out,addF,if_pos (of_decide_eq_true HVV.out)]
    go_wp2_with fail
    go_roundw
    case rel=>exact ⟨k+1,B,bc,by omega,by go_num,by rw [HNX.out],by rw [HNX.out];exact S6.out⟩
    simp [intOf];omega
   | false=>
    have HNX:Hid (firsts (m.ids.take (k+1))=F++[(j1,j2)]):=by rw [Hid,HTK.out,addF,if_neg (of_decide_eq_false HVV.out)]
    have e0:=(S6.out.cell 0 rfl).cell 0;have e1:=(S6.out.cell 0 rfl).cell 1;have hrA:=HRD.out _ _ S6.out (fun o ho=> .tail _ (.tail _ ho));obtain ⟨gb',o',e7,hB',hne',hc⟩:=hrA (by omega);injection e7 with e7;injection e7 with e7 e8;subst e7;subst e8;have d0:w4.cell? ⟨gb,o+k*2,none⟩=some (.int .u64 j1):=hc k hlt 0 _ (by rw [show m.ids.getD k (0,0)=(j1,j2) from HI.out];rfl);have d1:w4.cell? ⟨gb,o+k*2+1,none⟩=some (.int .i64 j2):=hc k hlt 1 _ (by rw [show m.ids.getD k (0,0)=(j1,j2) from HI.out];rfl);clear hc hrA;have S7:=hid (S6.out.alloc (.cells #[.int .u64 j1,.int .i64 j2] 36));go_wp2_with (at_builtin;(refine wpList_rowS (t:=31) (e:=36) (size:=2) (bytes:=16) (i:=ii) S7.out 1 rfl (by rfl) (.tmp 39) (.tmp 45) (by rfl) Tryz.underlying31 gi gz0 gz1 gz2 rfl (by omega) (by rfl) ⟨w4.heap.size,0,none⟩ 1 [.int .u64 j1,.int .i64 j2] (by rfl) rfl (two_new _ _ _ _ _ (by simp)) (encID_one (j1,j2)) (by unfold maxLen;omega) (by omega) ?_);refine halt_ ?_)
    intro v8 w8 s8;obtain ⟨g8,c8,rfl⟩:=own_some (s8.get 1 rfl) (by omega)
    have S8:Hid (SW b w0 (cellOb gm 33 #[.int .i64 m.size,.slice (some ⟨gb,o,none⟩) m.ids.length c]::rowOb 36 2 (.slice (some ⟨g8,0,none⟩) (firsts (m.ids.take (k+1))).length c8) (firsts (m.ids.take (k+1))).length ((firsts (m.ids.take (k+1))).flatMap encID)::l) w8):=by
     rw [Hid,HNX.out,List.length_append,List.flatMap_append];exact s8
    clear s8 S6 S7 e0 e1 d0 d1;go_wp2_with fail
    go_roundw
    case rel=>exact ⟨k+1,some ⟨g8,0,none⟩,c8,by omega,by go_num,by rw [HNX.out,List.length_append];rfl,S8.out⟩
    simp [intOf];omega
 obtain rfl:k=m.ids.length:=by omega
 rw [List.take_length] at HF;go_wp2_with fail
 go_ret2;exact ⟨B,bc,by rw [HF.out];rfl,by rw [HF.out];exact S4.out.tail⟩
end
end Go.Proofs.YtmiknfneeipkeaaGreat
namespace Go.Proofs.YtmiknfneeipkeaaGreat
open Go.RowKit Go.MapKept Go.ChangeMaps Go.Shelf Go.Sort
attribute [local go_sem] wext_cell
section
variable {b:Nat} {w0 w w':World} {l:List Ob}
theorem SW.imCell {A:Option Addr} {rs:List MR} {ms:List Man} (h:SW b w0 l w) (hm:imOb A rs ms∈l) {k:Nat} (hk:k<ms.length) {m:Man} (hmk:ms.getD k man0=m) {z:Int} {rA:Option Addr} {n rc:Nat} (hr:rs.getD k mr0=⟨z,rA,n,rc⟩):
 z=m.size/\n=m.ids.length/\RdID w w.heap.size rA m.ids/\∃ g o,A=some ⟨g,o,none⟩/\g<w.heap.size/\w.cell? ⟨g,o+k*2,none⟩=some (.int .i64 z)/\w.cell? ⟨g,o+k*2+1,none⟩=some (.slice rA n rc):=by
 obtain ⟨h1,h2,h3⟩:=h.1.holds (imOb A rs ms) hm;obtain ⟨g,o,e,hgB,_,hc⟩:=h1 (by omega);obtain ⟨l1,l2,l3,l4⟩:=h3 k hk;rw [hmk,hr] at l1 l2 l4;simp only at l1 l2 l4;refine ⟨l1,l2,l4,g,o,e,hgB,hc k (by omega) 0 _ (by rw [hr];rfl),hc k (by omega) 1 _ (by rw [hr];rfl)⟩
abbrev RcnP (bs:List UInt8) (b:Nat) (w0:World) (l:List Ob) (e:Ending) (w':World):Prop:=
 (∃ (ms:List Man) (S:List CH) (D:Option Addr) (d:Nat),VolOk bs/\opnV bs=some (ms,pcs S)/\e= .returned (.tuple #[.slice D ms.length d,.int .i64 0])/\SW b w0 (rowOb 36 2 (.slice D ms.length d) ms.length ((ms.map keyM).flatMap encID)::l) w')∨
 (¬ VolOk bs/\e= .returned (.tuple #[.slice none 0 0,.int .i64 412])/\SW b w0 l w')
set_option maxRecDepth 100000 in
set_option maxHeartbeats 8000000 in
theorem rContents_any (h:SW b w0 l w) {A:Option Addr} {c:Nat} {bs:List UInt8} (hr:rsOb A bs∈l) (hv:(A=none->c=0)/\bs.length<=c/\bs.length<=9223372036854775807) (hbl:bs.length<=1000000000) (hS:∀ ms k,rdMans bs=some (ms,k)->ms.length<=600000) (hP:∀ ms S,opnV bs=some (ms,pcs S)->AllR (setR (idsOf ms)) S->(packP (selR (setR (idsOf ms)) S)).length<=1048576):
 Calls Tryz.prog 21 #[.slice A bs.length c] w (RcnP bs b w0 l):=by
 have HM:=hid (rOpen_any h hr hv hbl hS hP)
 have HLM:Hid (∀ ms S,opnV bs=some (ms,pcs S)->ms.length<=600000):=fun ms S h=>by
  unfold opnV at h;split at h
  · rename_i ms' k' h1
    obtain ⟨x,_,e⟩:=Option.map_eq_some_iff.1 h;injection e with e1 _;subst e1;exact hS _ _ h1
  cases h
 clear h hr hv hS hP;obtain ⟨ii,gi,gz0,gz1,gz2⟩:=info_parts info36;go_enter Tryz.func21,Tryz.ntmps21;go_wp2_with (go_at_call 62;(with_reducible refine HM.out.mono ?_);refine halt_ ?_)
 rintro e w1 (⟨ms,rs,S,D,C,d,dc,hvo,hop,hok,hSl,rfl,t1⟩ | ⟨hno,rfl,t1⟩)
 · have HVO:=hid hvo;have HOP:=hid hop;have HMO:=hid (opnV_asc hop).2;have hms:=HLM.out _ _ hop;have S1:Hid (SW b w0 (rowOb 36 2 (.slice none 0 0) 0 []::imOb D rs ms::l) w1):=SW.newRow (SW.sub t1 (.cons_cons _ (.cons _ (List.Sublist.refl _)))) 36 2;clear hvo hop hok t1 HM;go_wp2_with fail
   go_loopw [7,8] (fun s7 s8 wr=>∃ (k:Nat) (I:Option Addr) (ic:Nat),s8= .int .i64 (k:Int)/\k<=ms.length/\s7= .slice I k ic/\SW b w0 (rowOb 36 2 (.slice I k ic) k (((ms.map keyM).take k).flatMap encID)::imOb D rs ms::l) wr) (fun _ s8 _=>ms.length-(intOf s8).toNat)
   case atStart=>exact ⟨0,none,0,rfl,Nat.zero_le _,rfl,by simpa using S1.out⟩
   obtain ⟨k,I,ic,rfl,hk,rfl,hs⟩:=hrel;have S2:=hid hs;clear hs S1;by_cases hlt:k<ms.length
   · obtain ⟨m,HMK⟩:∃ m,Hid (ms.getD k man0=m):=⟨_,rfl⟩;obtain ⟨⟨z,rA,rn,rc⟩,HRK⟩:∃ r,Hid (rs.getD k mr0=r):=⟨_,rfl⟩;obtain ⟨rfl,rfl,hrd,g,o,rfl,hg,q0,q1⟩:=S2.out.imCell (.tail _ (.head _)) hlt HMK.out HRK.out;have hmem:m∈ms:=by rw [<- HMK.out];exact getD_mem _ _ _ hlt
     have hmo:=HMO.out m hmem;obtain ⟨⟨i1,i2⟩,HI⟩:∃ x,Hid (keyM m=x):=⟨_,rfl⟩;have hml:=manE_len hmo.1;have HW:=hid (rWhole_ok _ m rA rc wr hrd (by omega) hmo.2 hmo.1);rw [HI.out] at HW
     have HTK:Hid ((ms.map keyM).take (k+1)=(ms.map keyM).take k++[(i1,i2)]):=by
      rw [Hid, <- List.map_take, <- List.map_take,take_snoc _ man0 _ hlt,List.map_append,HMK.out, <- HI.out];rfl
     clear hmem hmo hrd;go_wp2_with (go_at_call 10;(with_reducible refine HW.out.mono ?_);refine halt_ ?_)
     rintro e w3 ⟨rfl,hb3⟩;have S3:=hid ((S2.out.on hb3).newCell 36 #[.int .u64 i1,.int .i64 i2]);clear hb3 S2 HW q0 q1;go_upto_region 7 with fail
     obtain ⟨w4,HW⟩:∃ W,Hid (w3.alloc (.cells #[.int .u64 i1,.int .i64 i2] 36)=W):=⟨_,rfl⟩;obtain ⟨g4,HG4⟩:∃ x,Hid (w3.heap.size=x):=⟨_,rfl⟩;rw [HW.out,HG4.out] at S3;rw [HW.out,HG4.out];clear HW HG4;have c0:=(S3.out.cell 0 rfl).cell 0;have c1:=(S3.out.cell 0 rfl).cell 1;have S4:=hid (S3.out.newCell 36 #[.int .u64 i1,.int .i64 i2]);go_wp2_with (at_builtin;(refine wpList_rowS (t:=31) (e:=36) (size:=2) (bytes:=16) (i:=ii) S4.out 2 rfl (by rfl) (.tmp 31) (.tmp 33) (by rfl) Tryz.underlying31 gi gz0 gz1 gz2 rfl (by omega) (by rfl) ⟨w4.heap.size,0,none⟩ 1 [.int .u64 i1,.int .i64 i2] (by rfl) rfl (two_new _ _ _ _ _ (by simp)) (encID_one (i1,i2)) (by unfold maxLen;omega) (by omega) ?_);refine halt_ ?_)
     intro v5 w5 s5;obtain ⟨g5,c5,rfl⟩:=own_some (s5.get 2 rfl) (by omega)
     have S5:Hid (SW b w0 (rowOb 36 2 (.slice (some ⟨g5,0,none⟩) (k+1) c5) (k+1) (((ms.map keyM).take (k+1)).flatMap encID)::imOb (some ⟨g,o,none⟩) rs ms::l) w5):=by
      have h1:=SW.sub s5 (.cons _ (.cons _ (List.Sublist.refl _)));rw [Hid,HTK.out,List.flatMap_append];exact h1
     clear s5 S4 S3 c0 c1;go_wp2_with fail
     go_roundw
     case rel=>exact ⟨k+1,some ⟨g5,0,none⟩,c5,by go_num,by omega,rfl,S5.out⟩
     simp [intOf];omega
   obtain rfl:k=ms.length:=by omega
   have S3:Hid (SW b w0 (rowOb 36 2 (.slice I ms.length ic) ms.length ((ms.map keyM).flatMap encID)::l) wr):=by
    have h1:=SW.sub S2.out (.cons_cons _ (.cons _ (List.Sublist.refl _)));rw [List.take_of_length_le (by rw [List.length_map];exact Nat.le_refl _)] at h1;exact h1
   clear S2;go_wp2_with fail
   go_ret2;exact .inl ⟨ms,S,I,ic,HVO.out,HOP.out,rfl,S3.out⟩
 have HNO:=hid hno;have S1:=hid t1;clear hno t1 HM;go_wp2_with fail
 go_loopw [7,8] (fun s7 s8 wr=>s7= .slice none 0 0/\s8= .int .i64 0/\wr=w1) (fun _ _ _=>0)
 case atStart=>exact ⟨rfl,rfl,rfl⟩
 obtain ⟨rfl,rfl,rfl⟩:=hrel;go_wp2_with fail
 go_ret2;exact .inr ⟨HNO.out,rfl,S1.out⟩
end
end Go.Proofs.YtmiknfneeipkeaaGreat
